/- A part of the claim: see its last text. -/
import Derived.Test.YtfemlajeomohhaaGreatDoorUK32

set_option maxRecDepth 100000
set_option maxHeartbeats 16000000
namespace Go.Proofs.YtfemlajeomohhaaGreatDoor
open Go Go.RowKit Go.Proofs
theorem Pn (h:MH) (m:AC) (x:EvM) (j:EvJ) (w:World) (d:MD w w.heap.size h m) (g2:(x.kind == 2)=true) (e:x.group<1) :
    Calls Tryz.prog 82 #[.agg #[.slice h.s m.sT.length h.sc,.slice h.f m.fT.length h.fc,.slice h.r m.rT.length h.rc,.slice h.m m.mT.length h.mc,.slice h.l m.lT.length h.lc,.slice h.i m.iT.length h.ic,.int .i64 m.dT,.int .i64 m.oT,.int .i64 m.vT,.int .i64 m.aT,.slice h.u m.uT.length h.uc],.agg #[.int .i64 x.kind,.int .i64 x.mach,.int .i64 j.v2,.int .i64 j.v3,.int .i64 x.group,.int .i64 j.v5,.string j.v6,.int .i64 j.v7,.int .i64 j.v8,.int .i64 j.v9,.bool j.v10,.int .i64 j.v11,.slice j.A x.old.length j.c,.slice j.A13 j.n13 j.c13,.slice j.A14 j.n14 j.c14,.int .i64 x.hitem,.int .i64 j.v16,.int .i64 x.hstate,.int .i64 j.v18,.int .i64 j.v19,.bool x.gone,.int .i64 x.outcome]] w (Br w (.bool (Ah m x))):=by
 have HB:=hide (((Below.refl w.heap.size w).alloc (Nat.le_refl _) (.cells #[.slice h.s m.sT.length h.sc,.slice h.f m.fT.length h.fc,.slice h.r m.rT.length h.rc,.slice h.m m.mT.length h.mc,.slice h.l m.lT.length h.lc,.slice h.i m.iT.length h.ic,.int .i64 m.dT,.int .i64 m.oT,.int .i64 m.vT,.int .i64 m.aT,.slice h.u m.uT.length h.uc] 29)).alloc (by simp) (.cells #[.int .i64 x.kind,.int .i64 x.mach,.int .i64 j.v2,.int .i64 j.v3,.int .i64 x.group,.int .i64 j.v5,.string j.v6,.int .i64 j.v7,.int .i64 j.v8,.int .i64 j.v9,.bool j.v10,.int .i64 j.v11,.slice j.A x.old.length j.c,.slice j.A13 j.n13 j.c13,.slice j.A14 j.n14 j.c14,.int .i64 x.hitem,.int .i64 j.v16,.int .i64 x.hstate,.int .i64 j.v18,.int .i64 j.v19,.bool x.gone,.int .i64 x.outcome] 85))
 have hil:=d.il
 have hml:=d.ml
 have HV:=hide (show Ah m x=false by rw[FV (by simpa using g2)];rw[ED (.inl e)];rfl)
 clear d
 go_enter Tryz.func82,Tryz.ntmps82
 go_wp2_with fail
 go_ret
 exact⟨by rw[HV.out];rfl,HB.out⟩
theorem Po (h:MH) (m:AC) (x:EvM) (j:EvJ) (w:World) (d:MD w w.heap.size h m) (g2:(x.kind == 2)=true) (e0:1≤x.group) (e:(m.iT.length:Int)<x.group) :
    Calls Tryz.prog 82 #[.agg #[.slice h.s m.sT.length h.sc,.slice h.f m.fT.length h.fc,.slice h.r m.rT.length h.rc,.slice h.m m.mT.length h.mc,.slice h.l m.lT.length h.lc,.slice h.i m.iT.length h.ic,.int .i64 m.dT,.int .i64 m.oT,.int .i64 m.vT,.int .i64 m.aT,.slice h.u m.uT.length h.uc],.agg #[.int .i64 x.kind,.int .i64 x.mach,.int .i64 j.v2,.int .i64 j.v3,.int .i64 x.group,.int .i64 j.v5,.string j.v6,.int .i64 j.v7,.int .i64 j.v8,.int .i64 j.v9,.bool j.v10,.int .i64 j.v11,.slice j.A x.old.length j.c,.slice j.A13 j.n13 j.c13,.slice j.A14 j.n14 j.c14,.int .i64 x.hitem,.int .i64 j.v16,.int .i64 x.hstate,.int .i64 j.v18,.int .i64 j.v19,.bool x.gone,.int .i64 x.outcome]] w (Br w (.bool (Ah m x))):=by
 have HB:=hide (((Below.refl w.heap.size w).alloc (Nat.le_refl _) (.cells #[.slice h.s m.sT.length h.sc,.slice h.f m.fT.length h.fc,.slice h.r m.rT.length h.rc,.slice h.m m.mT.length h.mc,.slice h.l m.lT.length h.lc,.slice h.i m.iT.length h.ic,.int .i64 m.dT,.int .i64 m.oT,.int .i64 m.vT,.int .i64 m.aT,.slice h.u m.uT.length h.uc] 29)).alloc (by simp) (.cells #[.int .i64 x.kind,.int .i64 x.mach,.int .i64 j.v2,.int .i64 j.v3,.int .i64 x.group,.int .i64 j.v5,.string j.v6,.int .i64 j.v7,.int .i64 j.v8,.int .i64 j.v9,.bool j.v10,.int .i64 j.v11,.slice j.A x.old.length j.c,.slice j.A13 j.n13 j.c13,.slice j.A14 j.n14 j.c14,.int .i64 x.hitem,.int .i64 j.v16,.int .i64 x.hstate,.int .i64 j.v18,.int .i64 j.v19,.bool x.gone,.int .i64 x.outcome] 85))
 have hil:=d.il
 have hml:=d.ml
 have HV:=hide (show Ah m x=false by rw[FV (by simpa using g2)];rw[ED (.inr e)];rfl)
 clear d
 go_enter Tryz.func82,Tryz.ntmps82
 go_wp2_with fail
 go_ret
 exact⟨by rw[HV.out];rfl,HB.out⟩
theorem Pp (h:MH) (m:AC) (x:EvM) (j:EvJ) (w:World) (d:MD w w.heap.size h m) (g2:(x.kind == 2)=true) (a:Nat) (ha:a<m.iT.length) (e:x.group=(a:Int)+1) :
    Calls Tryz.prog 82 #[.agg #[.slice h.s m.sT.length h.sc,.slice h.f m.fT.length h.fc,.slice h.r m.rT.length h.rc,.slice h.m m.mT.length h.mc,.slice h.l m.lT.length h.lc,.slice h.i m.iT.length h.ic,.int .i64 m.dT,.int .i64 m.oT,.int .i64 m.vT,.int .i64 m.aT,.slice h.u m.uT.length h.uc],.agg #[.int .i64 x.kind,.int .i64 x.mach,.int .i64 j.v2,.int .i64 j.v3,.int .i64 x.group,.int .i64 j.v5,.string j.v6,.int .i64 j.v7,.int .i64 j.v8,.int .i64 j.v9,.bool j.v10,.int .i64 j.v11,.slice j.A x.old.length j.c,.slice j.A13 j.n13 j.c13,.slice j.A14 j.n14 j.c14,.int .i64 x.hitem,.int .i64 j.v16,.int .i64 x.hstate,.int .i64 j.v18,.int .i64 j.v19,.bool x.gone,.int .i64 x.outcome]] w (Br w (.bool (Ah m x))):=by
 have HB:=hide (((Below.refl w.heap.size w).alloc (Nat.le_refl _) (.cells #[.slice h.s m.sT.length h.sc,.slice h.f m.fT.length h.fc,.slice h.r m.rT.length h.rc,.slice h.m m.mT.length h.mc,.slice h.l m.lT.length h.lc,.slice h.i m.iT.length h.ic,.int .i64 m.dT,.int .i64 m.oT,.int .i64 m.vT,.int .i64 m.aT,.slice h.u m.uT.length h.uc] 29)).alloc (by simp) (.cells #[.int .i64 x.kind,.int .i64 x.mach,.int .i64 j.v2,.int .i64 j.v3,.int .i64 x.group,.int .i64 j.v5,.string j.v6,.int .i64 j.v7,.int .i64 j.v8,.int .i64 j.v9,.bool j.v10,.int .i64 j.v11,.slice j.A x.old.length j.c,.slice j.A13 j.n13 j.c13,.slice j.A14 j.n14 j.c14,.int .i64 x.hitem,.int .i64 j.v16,.int .i64 x.hstate,.int .i64 j.v18,.int .i64 j.v19,.bool x.gone,.int .i64 x.outcome] 85))
 have hil:=d.il
 have hml:=d.ml
 obtain⟨b,off,A2,c2,hA,hb,x0,x1,x2,x3,x4,x5,x6,hz,hlc,hcm,hI⟩:=d.dI.item ha
 have hki:Ai m ((a:Int)+1)=m.iT[a].kind:=CG ha
 have haI:(a:Int)<(m.iT.length:Int):=by omega
 have HV:=hide (show Ah m x=(m.iT[a].kind == 0) by rw[FV (by simpa using g2)];rw[e,hki,Bool.eq_iff_iff];simp)
 have HE:=hide e
 clear hI d hz hki
 rw[e] at HB ⊢
 rw[hA] at HB ⊢
 clear e
 go_enter Tryz.func82,Tryz.ntmps82
 go_wp2_with fail
 go_ret
 exact⟨by rw[HV.out];rfl,HB.out⟩
theorem Pq (h:MH) (m:AC) (x:EvM) (j:EvJ) (w:World) (d:MD w w.heap.size h m) (g2:(x.kind == 2)=false) (e:x.hitem<1) :
    Calls Tryz.prog 82 #[.agg #[.slice h.s m.sT.length h.sc,.slice h.f m.fT.length h.fc,.slice h.r m.rT.length h.rc,.slice h.m m.mT.length h.mc,.slice h.l m.lT.length h.lc,.slice h.i m.iT.length h.ic,.int .i64 m.dT,.int .i64 m.oT,.int .i64 m.vT,.int .i64 m.aT,.slice h.u m.uT.length h.uc],.agg #[.int .i64 x.kind,.int .i64 x.mach,.int .i64 j.v2,.int .i64 j.v3,.int .i64 x.group,.int .i64 j.v5,.string j.v6,.int .i64 j.v7,.int .i64 j.v8,.int .i64 j.v9,.bool j.v10,.int .i64 j.v11,.slice j.A x.old.length j.c,.slice j.A13 j.n13 j.c13,.slice j.A14 j.n14 j.c14,.int .i64 x.hitem,.int .i64 j.v16,.int .i64 x.hstate,.int .i64 j.v18,.int .i64 j.v19,.bool x.gone,.int .i64 x.outcome]] w (Br w (.bool (Ah m x))):=by
 have HB:=hide (((Below.refl w.heap.size w).alloc (Nat.le_refl _) (.cells #[.slice h.s m.sT.length h.sc,.slice h.f m.fT.length h.fc,.slice h.r m.rT.length h.rc,.slice h.m m.mT.length h.mc,.slice h.l m.lT.length h.lc,.slice h.i m.iT.length h.ic,.int .i64 m.dT,.int .i64 m.oT,.int .i64 m.vT,.int .i64 m.aT,.slice h.u m.uT.length h.uc] 29)).alloc (by simp) (.cells #[.int .i64 x.kind,.int .i64 x.mach,.int .i64 j.v2,.int .i64 j.v3,.int .i64 x.group,.int .i64 j.v5,.string j.v6,.int .i64 j.v7,.int .i64 j.v8,.int .i64 j.v9,.bool j.v10,.int .i64 j.v11,.slice j.A x.old.length j.c,.slice j.A13 j.n13 j.c13,.slice j.A14 j.n14 j.c14,.int .i64 x.hitem,.int .i64 j.v16,.int .i64 x.hstate,.int .i64 j.v18,.int .i64 j.v19,.bool x.gone,.int .i64 x.outcome] 85))
 have hil:=d.il
 have hml:=d.ml
 have HV:=hide (show Ah m x=false by rcases Classical.em (x.kind=3) with g3|g3;(rw[Dt g3,ED (.inl e)];rfl);exact Ea (by simpa using g2) g3)
 clear d
 go_enter Tryz.func82,Tryz.ntmps82
 go_wp2_with fail
 go_ret
 exact⟨by rw[HV.out];rfl,HB.out⟩
theorem Ps (h:MH) (m:AC) (x:EvM) (j:EvJ) (w:World) (d:MD w w.heap.size h m) (g2:(x.kind == 2)=false) (e0:1≤x.hitem) (e:(m.iT.length:Int)<x.hitem) :
    Calls Tryz.prog 82 #[.agg #[.slice h.s m.sT.length h.sc,.slice h.f m.fT.length h.fc,.slice h.r m.rT.length h.rc,.slice h.m m.mT.length h.mc,.slice h.l m.lT.length h.lc,.slice h.i m.iT.length h.ic,.int .i64 m.dT,.int .i64 m.oT,.int .i64 m.vT,.int .i64 m.aT,.slice h.u m.uT.length h.uc],.agg #[.int .i64 x.kind,.int .i64 x.mach,.int .i64 j.v2,.int .i64 j.v3,.int .i64 x.group,.int .i64 j.v5,.string j.v6,.int .i64 j.v7,.int .i64 j.v8,.int .i64 j.v9,.bool j.v10,.int .i64 j.v11,.slice j.A x.old.length j.c,.slice j.A13 j.n13 j.c13,.slice j.A14 j.n14 j.c14,.int .i64 x.hitem,.int .i64 j.v16,.int .i64 x.hstate,.int .i64 j.v18,.int .i64 j.v19,.bool x.gone,.int .i64 x.outcome]] w (Br w (.bool (Ah m x))):=by
 have HB:=hide (((Below.refl w.heap.size w).alloc (Nat.le_refl _) (.cells #[.slice h.s m.sT.length h.sc,.slice h.f m.fT.length h.fc,.slice h.r m.rT.length h.rc,.slice h.m m.mT.length h.mc,.slice h.l m.lT.length h.lc,.slice h.i m.iT.length h.ic,.int .i64 m.dT,.int .i64 m.oT,.int .i64 m.vT,.int .i64 m.aT,.slice h.u m.uT.length h.uc] 29)).alloc (by simp) (.cells #[.int .i64 x.kind,.int .i64 x.mach,.int .i64 j.v2,.int .i64 j.v3,.int .i64 x.group,.int .i64 j.v5,.string j.v6,.int .i64 j.v7,.int .i64 j.v8,.int .i64 j.v9,.bool j.v10,.int .i64 j.v11,.slice j.A x.old.length j.c,.slice j.A13 j.n13 j.c13,.slice j.A14 j.n14 j.c14,.int .i64 x.hitem,.int .i64 j.v16,.int .i64 x.hstate,.int .i64 j.v18,.int .i64 j.v19,.bool x.gone,.int .i64 x.outcome] 85))
 have hil:=d.il
 have hml:=d.ml
 have HV:=hide (show Ah m x=false by rcases Classical.em (x.kind=3) with g3|g3;(rw[Dt g3,ED (.inr e)];rfl);exact Ea (by simpa using g2) g3)
 clear d
 go_enter Tryz.func82,Tryz.ntmps82
 go_wp2_with fail
 go_ret
 exact⟨by rw[HV.out];rfl,HB.out⟩
theorem Pt (h:MH) (m:AC) (x:EvM) (j:EvJ) (w:World) (d:MD w w.heap.size h m) (g2:(x.kind == 2)=false) (g3:(x.kind == 3)=false) (a:Nat) (ha:a<m.iT.length) (e:x.hitem=(a:Int)+1) :
    Calls Tryz.prog 82 #[.agg #[.slice h.s m.sT.length h.sc,.slice h.f m.fT.length h.fc,.slice h.r m.rT.length h.rc,.slice h.m m.mT.length h.mc,.slice h.l m.lT.length h.lc,.slice h.i m.iT.length h.ic,.int .i64 m.dT,.int .i64 m.oT,.int .i64 m.vT,.int .i64 m.aT,.slice h.u m.uT.length h.uc],.agg #[.int .i64 x.kind,.int .i64 x.mach,.int .i64 j.v2,.int .i64 j.v3,.int .i64 x.group,.int .i64 j.v5,.string j.v6,.int .i64 j.v7,.int .i64 j.v8,.int .i64 j.v9,.bool j.v10,.int .i64 j.v11,.slice j.A x.old.length j.c,.slice j.A13 j.n13 j.c13,.slice j.A14 j.n14 j.c14,.int .i64 x.hitem,.int .i64 j.v16,.int .i64 x.hstate,.int .i64 j.v18,.int .i64 j.v19,.bool x.gone,.int .i64 x.outcome]] w (Br w (.bool (Ah m x))):=by
 have HB:=hide (((Below.refl w.heap.size w).alloc (Nat.le_refl _) (.cells #[.slice h.s m.sT.length h.sc,.slice h.f m.fT.length h.fc,.slice h.r m.rT.length h.rc,.slice h.m m.mT.length h.mc,.slice h.l m.lT.length h.lc,.slice h.i m.iT.length h.ic,.int .i64 m.dT,.int .i64 m.oT,.int .i64 m.vT,.int .i64 m.aT,.slice h.u m.uT.length h.uc] 29)).alloc (by simp) (.cells #[.int .i64 x.kind,.int .i64 x.mach,.int .i64 j.v2,.int .i64 j.v3,.int .i64 x.group,.int .i64 j.v5,.string j.v6,.int .i64 j.v7,.int .i64 j.v8,.int .i64 j.v9,.bool j.v10,.int .i64 j.v11,.slice j.A x.old.length j.c,.slice j.A13 j.n13 j.c13,.slice j.A14 j.n14 j.c14,.int .i64 x.hitem,.int .i64 j.v16,.int .i64 x.hstate,.int .i64 j.v18,.int .i64 j.v19,.bool x.gone,.int .i64 x.outcome] 85))
 have hil:=d.il
 have hml:=d.ml
 obtain⟨b,off,A2,c2,hA,hb,x0,x1,x2,x3,x4,x5,x6,hz,hlc,hcm,hI⟩:=d.dI.item ha
 have hki:Ai m ((a:Int)+1)=m.iT[a].kind:=CG ha
 have haI:(a:Int)<(m.iT.length:Int):=by omega
 have HV:=hide (show Ah m x=false by exact Ea (by simpa using g2) (by simpa using g3))
 have HE:=hide e
 clear hI d hz hki
 rw[e] at HB ⊢
 rw[hA] at HB ⊢
 clear e
 go_enter Tryz.func82,Tryz.ntmps82
 go_wp2_with fail
 go_ret
 exact⟨by rw[HV.out];rfl,HB.out⟩
theorem Pv (h:MH) (m:AC) (x:EvM) (j:EvJ) (w:World) (d:MD w w.heap.size h m) (g2:(x.kind == 2)=false) (g3:(x.kind == 3)=true) (a:Nat) (ha:a<m.iT.length) (e:x.hitem=(a:Int)+1) (k0:(m.iT[a].kind != 0)=false) :
    Calls Tryz.prog 82 #[.agg #[.slice h.s m.sT.length h.sc,.slice h.f m.fT.length h.fc,.slice h.r m.rT.length h.rc,.slice h.m m.mT.length h.mc,.slice h.l m.lT.length h.lc,.slice h.i m.iT.length h.ic,.int .i64 m.dT,.int .i64 m.oT,.int .i64 m.vT,.int .i64 m.aT,.slice h.u m.uT.length h.uc],.agg #[.int .i64 x.kind,.int .i64 x.mach,.int .i64 j.v2,.int .i64 j.v3,.int .i64 x.group,.int .i64 j.v5,.string j.v6,.int .i64 j.v7,.int .i64 j.v8,.int .i64 j.v9,.bool j.v10,.int .i64 j.v11,.slice j.A x.old.length j.c,.slice j.A13 j.n13 j.c13,.slice j.A14 j.n14 j.c14,.int .i64 x.hitem,.int .i64 j.v16,.int .i64 x.hstate,.int .i64 j.v18,.int .i64 j.v19,.bool x.gone,.int .i64 x.outcome]] w (Br w (.bool (Ah m x))):=by
 have HB:=hide (((Below.refl w.heap.size w).alloc (Nat.le_refl _) (.cells #[.slice h.s m.sT.length h.sc,.slice h.f m.fT.length h.fc,.slice h.r m.rT.length h.rc,.slice h.m m.mT.length h.mc,.slice h.l m.lT.length h.lc,.slice h.i m.iT.length h.ic,.int .i64 m.dT,.int .i64 m.oT,.int .i64 m.vT,.int .i64 m.aT,.slice h.u m.uT.length h.uc] 29)).alloc (by simp) (.cells #[.int .i64 x.kind,.int .i64 x.mach,.int .i64 j.v2,.int .i64 j.v3,.int .i64 x.group,.int .i64 j.v5,.string j.v6,.int .i64 j.v7,.int .i64 j.v8,.int .i64 j.v9,.bool j.v10,.int .i64 j.v11,.slice j.A x.old.length j.c,.slice j.A13 j.n13 j.c13,.slice j.A14 j.n14 j.c14,.int .i64 x.hitem,.int .i64 j.v16,.int .i64 x.hstate,.int .i64 j.v18,.int .i64 j.v19,.bool x.gone,.int .i64 x.outcome] 85))
 have hil:=d.il
 have hml:=d.ml
 obtain⟨b,off,A2,c2,hA,hb,x0,x1,x2,x3,x4,x5,x6,hz,hlc,hcm,hI⟩:=d.dI.item ha
 have hki:Ai m ((a:Int)+1)=m.iT[a].kind:=CG ha
 have haI:(a:Int)<(m.iT.length:Int):=by omega
 have HV:=hide (show Ah m x=false by rw[Dt (by simpa using g3)];simp at k0;rw[e,hki,k0];rfl)
 have HE:=hide e
 clear hI d hz hki
 rw[e] at HB ⊢
 rw[hA] at HB ⊢
 clear e
 go_enter Tryz.func82,Tryz.ntmps82
 go_wp2_with fail
 go_ret
 exact⟨by rw[HV.out];rfl,HB.out⟩
theorem Pw (h:MH) (m:AC) (x:EvM) (j:EvJ) (w:World) (d:MD w w.heap.size h m) (g2:(x.kind == 2)=false) (g3:(x.kind == 3)=true) (a:Nat) (ha:a<m.iT.length) (e:x.hitem=(a:Int)+1) (k0:(m.iT[a].kind != 0)=true) (_k12:m.iT[a].kind=1∨m.iT[a].kind=2) (e1:x.mach<1) :
    Calls Tryz.prog 82 #[.agg #[.slice h.s m.sT.length h.sc,.slice h.f m.fT.length h.fc,.slice h.r m.rT.length h.rc,.slice h.m m.mT.length h.mc,.slice h.l m.lT.length h.lc,.slice h.i m.iT.length h.ic,.int .i64 m.dT,.int .i64 m.oT,.int .i64 m.vT,.int .i64 m.aT,.slice h.u m.uT.length h.uc],.agg #[.int .i64 x.kind,.int .i64 x.mach,.int .i64 j.v2,.int .i64 j.v3,.int .i64 x.group,.int .i64 j.v5,.string j.v6,.int .i64 j.v7,.int .i64 j.v8,.int .i64 j.v9,.bool j.v10,.int .i64 j.v11,.slice j.A x.old.length j.c,.slice j.A13 j.n13 j.c13,.slice j.A14 j.n14 j.c14,.int .i64 x.hitem,.int .i64 j.v16,.int .i64 x.hstate,.int .i64 j.v18,.int .i64 j.v19,.bool x.gone,.int .i64 x.outcome]] w (Br w (.bool (Ah m x))):=by
 have HB:=hide (((Below.refl w.heap.size w).alloc (Nat.le_refl _) (.cells #[.slice h.s m.sT.length h.sc,.slice h.f m.fT.length h.fc,.slice h.r m.rT.length h.rc,.slice h.m m.mT.length h.mc,.slice h.l m.lT.length h.lc,.slice h.i m.iT.length h.ic,.int .i64 m.dT,.int .i64 m.oT,.int .i64 m.vT,.int .i64 m.aT,.slice h.u m.uT.length h.uc] 29)).alloc (by simp) (.cells #[.int .i64 x.kind,.int .i64 x.mach,.int .i64 j.v2,.int .i64 j.v3,.int .i64 x.group,.int .i64 j.v5,.string j.v6,.int .i64 j.v7,.int .i64 j.v8,.int .i64 j.v9,.bool j.v10,.int .i64 j.v11,.slice j.A x.old.length j.c,.slice j.A13 j.n13 j.c13,.slice j.A14 j.n14 j.c14,.int .i64 x.hitem,.int .i64 j.v16,.int .i64 x.hstate,.int .i64 j.v18,.int .i64 j.v19,.bool x.gone,.int .i64 x.outcome] 85))
 have hil:=d.il
 have hml:=d.ml
 obtain⟨b,off,A2,c2,hA,hb,x0,x1,x2,x3,x4,x5,x6,hz,hlc,hcm,hI⟩:=d.dI.item ha
 have hki:Ai m ((a:Int)+1)=m.iT[a].kind:=CG ha
 have haI:(a:Int)<(m.iT.length:Int):=by omega
 have HV:=hide (show Ah m x=false by rw[Dt (by simpa using g3)];simp[AP];omega)
 have HE:=hide e
 clear _k12
 clear hI d hz hki
 rw[e] at HB ⊢
 rw[hA] at HB ⊢
 clear e
 go_enter Tryz.func82,Tryz.ntmps82
 go_wp2_with fail
 go_ret
 exact⟨by rw[HV.out];rfl,HB.out⟩
theorem Px (h:MH) (m:AC) (x:EvM) (j:EvJ) (w:World) (d:MD w w.heap.size h m) (g2:(x.kind == 2)=false) (g3:(x.kind == 3)=true) (a:Nat) (ha:a<m.iT.length) (e:x.hitem=(a:Int)+1) (k0:(m.iT[a].kind != 0)=true) (k12:m.iT[a].kind=1∨m.iT[a].kind=2) (e1:1≤x.mach) :
    Calls Tryz.prog 82 #[.agg #[.slice h.s m.sT.length h.sc,.slice h.f m.fT.length h.fc,.slice h.r m.rT.length h.rc,.slice h.m m.mT.length h.mc,.slice h.l m.lT.length h.lc,.slice h.i m.iT.length h.ic,.int .i64 m.dT,.int .i64 m.oT,.int .i64 m.vT,.int .i64 m.aT,.slice h.u m.uT.length h.uc],.agg #[.int .i64 x.kind,.int .i64 x.mach,.int .i64 j.v2,.int .i64 j.v3,.int .i64 x.group,.int .i64 j.v5,.string j.v6,.int .i64 j.v7,.int .i64 j.v8,.int .i64 j.v9,.bool j.v10,.int .i64 j.v11,.slice j.A x.old.length j.c,.slice j.A13 j.n13 j.c13,.slice j.A14 j.n14 j.c14,.int .i64 x.hitem,.int .i64 j.v16,.int .i64 x.hstate,.int .i64 j.v18,.int .i64 j.v19,.bool x.gone,.int .i64 x.outcome]] w (Br w (.bool (Ah m x))):=by
 have HB:=hide (((Below.refl w.heap.size w).alloc (Nat.le_refl _) (.cells #[.slice h.s m.sT.length h.sc,.slice h.f m.fT.length h.fc,.slice h.r m.rT.length h.rc,.slice h.m m.mT.length h.mc,.slice h.l m.lT.length h.lc,.slice h.i m.iT.length h.ic,.int .i64 m.dT,.int .i64 m.oT,.int .i64 m.vT,.int .i64 m.aT,.slice h.u m.uT.length h.uc] 29)).alloc (by simp) (.cells #[.int .i64 x.kind,.int .i64 x.mach,.int .i64 j.v2,.int .i64 j.v3,.int .i64 x.group,.int .i64 j.v5,.string j.v6,.int .i64 j.v7,.int .i64 j.v8,.int .i64 j.v9,.bool j.v10,.int .i64 j.v11,.slice j.A x.old.length j.c,.slice j.A13 j.n13 j.c13,.slice j.A14 j.n14 j.c14,.int .i64 x.hitem,.int .i64 j.v16,.int .i64 x.hstate,.int .i64 j.v18,.int .i64 j.v19,.bool x.gone,.int .i64 x.outcome] 85))
 have hil:=d.il
 have hml:=d.ml
 obtain⟨b,off,A2,c2,hA,hb,x0,x1,x2,x3,x4,x5,x6,hz,hlc,hcm,hI⟩:=d.dI.item ha
 have hki:Ai m ((a:Int)+1)=m.iT[a].kind:=CG ha
 have haI:(a:Int)<(m.iT.length:Int):=by omega
 have HV:=hide (show Ah m x=decide (x.mach≤(m.mT.length:Int)) by rw[Dt (by simpa using g3)];rw[e,hki];rcases k12 with q|q <;> simp[AP,q,e1])
 have HE:=hide e
 clear k12
 clear hI d hz hki
 rw[e] at HB ⊢
 rw[hA] at HB ⊢
 clear e
 go_enter Tryz.func82,Tryz.ntmps82
 go_wp2_with fail
 go_ret
 exact⟨by rw[HV.out];rfl,HB.out⟩
theorem J4 (h:MH) (m:AC) (x:EvM) (j:EvJ) (w:World) (d:MD w w.heap.size h m) (hk:∀ y∈m.iT,y.kind=0∨y.kind=1∨y.kind=2) :
    Calls Tryz.prog 82 #[.agg #[.slice h.s m.sT.length h.sc,.slice h.f m.fT.length h.fc,.slice h.r m.rT.length h.rc,.slice h.m m.mT.length h.mc,.slice h.l m.lT.length h.lc,.slice h.i m.iT.length h.ic,.int .i64 m.dT,.int .i64 m.oT,.int .i64 m.vT,.int .i64 m.aT,.slice h.u m.uT.length h.uc],.agg #[.int .i64 x.kind,.int .i64 x.mach,.int .i64 j.v2,.int .i64 j.v3,.int .i64 x.group,.int .i64 j.v5,.string j.v6,.int .i64 j.v7,.int .i64 j.v8,.int .i64 j.v9,.bool j.v10,.int .i64 j.v11,.slice j.A x.old.length j.c,.slice j.A13 j.n13 j.c13,.slice j.A14 j.n14 j.c14,.int .i64 x.hitem,.int .i64 j.v16,.int .i64 x.hstate,.int .i64 j.v18,.int .i64 j.v19,.bool x.gone,.int .i64 x.outcome]] w (Br w (.bool (Ah m x))):=by
 have hB:∀ b:Bool,b=false∨b=true:=fun b=>by cases b <;> simp
 have hR:∀ n:Int,n<1∨(1≤n∧(m.iT.length:Int)<n)∨∃ a:Nat,a<m.iT.length∧n=(a:Int)+1:=fun n=>by
  by_cases h1:n<1
  · exact .inl h1
  by_cases h2:(m.iT.length:Int)<n
  · exact .inr (.inl ⟨by omega,h2⟩)
  · exact .inr (.inr ⟨(n - 1).toNat,by omega,by omega⟩)
 rcases hB (x.kind == 2) with g2|g2
 · rcases hR x.hitem with e|⟨e0,e⟩|⟨a,ha,e⟩
   · exact Pq h m x j w d g2 e
   · exact Ps h m x j w d g2 e0 e
   · rcases hB (x.kind == 3) with g3|g3
     · exact Pt h m x j w d g2 g3 a ha e
     · rcases hB (m.iT[a].kind != 0) with k0|k0
       · exact Pv h m x j w d g2 g3 a ha e k0
       · have k12:m.iT[a].kind=1∨m.iT[a].kind=2:=by
           rcases hk _ (List.getElem_mem ha) with q|q
           · rw[q] at k0;simp at k0
           · exact q
         by_cases e1:x.mach<1
         · exact Pw h m x j w d g2 g3 a ha e k0 k12 e1
         · exact Px h m x j w d g2 g3 a ha e k0 k12 (by omega)
 · rcases hR x.group with e|⟨e0,e⟩|⟨a,ha,e⟩
   · exact Pn h m x j w d g2 e
   · exact Po h m x j w d g2 e0 e
   · exact Pp h m x j w d g2 a ha e
def Uc(h:MH)(m:AC)(w:World)(i:Value)(wr:World):Prop:=∃ (k:Nat) (A:Option Addr) (c:Nat),k≤m.iT.length∧i=.int .i64 k∧Hw m h w wr k A c
def Tm(wr:World)(on:List Int)(v i:Value)(wq:World):Prop:=∃ n:Nat,n≤on.length∧i=.int .i64 n∧Ad wr.heap.size wq v (Bl (on.take n))∧Below wr.heap.size wr wq
theorem G6 (h : MH) (m:AC) (w:World) (d:MD w w.heap.size h m) (hi:m.iT.length≤1000) (ho:∀ x∈m.iT,x.on.length≤1000) :
    Calls Tryz.prog 81 #[.agg #[.slice h.s m.sT.length h.sc,.slice h.f m.fT.length h.fc,.slice h.r m.rT.length h.rc,.slice h.m m.mT.length h.mc,.slice h.l m.lT.length h.lc,.slice h.i m.iT.length h.ic,.int .i64 m.dT,.int .i64 m.oT,.int .i64 m.vT,.int .i64 m.aT,.slice h.u m.uT.length h.uc]] w (BG w (Al m)):=by
 have H0:Hw m h w (((w.alloc (.cells #[.slice h.s m.sT.length h.sc,.slice h.f m.fT.length h.fc,.slice h.r m.rT.length h.rc,.slice h.m m.mT.length h.mc,.slice h.l m.lT.length h.lc,.slice h.i m.iT.length h.ic,.int .i64 m.dT,.int .i64 m.oT,.int .i64 m.vT,.int .i64 m.aT,.slice h.u m.uT.length h.uc] 29)).alloc (.cells #[.slice none 0 0] 56)).alloc (.cells #[.slice none 0 0] 56)) 0 none 0:=by
  refine⟨(((Below.refl w.heap.size w).alloc (Nat.le_refl _) _).alloc (by simp) _).alloc (by simp <;> omega) _,((AB.new w _ _).alloc _).alloc _,?_,?_,?_⟩
  · have:=(AB.new (w.alloc (.cells #[.slice h.s m.sT.length h.sc,.slice h.f m.fT.length h.fc,.slice h.r m.rT.length h.rc,.slice h.m m.mT.length h.mc,.slice h.l m.lT.length h.lc,.slice h.i m.iT.length h.ic,.int .i64 m.dT,.int .i64 m.oT,.int .i64 m.vT,.int .i64 m.aT,.slice h.u m.uT.length h.uc] 29)) 56 #[.slice none 0 0]).alloc (.cells #[.slice none 0 0] 56)
    simpa using this
  · have:=AB.new ((w.alloc (.cells #[.slice h.s m.sT.length h.sc,.slice h.f m.fT.length h.fc,.slice h.r m.rT.length h.rc,.slice h.m m.mT.length h.mc,.slice h.l m.lT.length h.lc,.slice h.i m.iT.length h.ic,.int .i64 m.dT,.int .i64 m.oT,.int .i64 m.vT,.int .i64 m.aT,.slice h.u m.uT.length h.uc] 29)).alloc (.cells #[.slice none 0 0] 56)) 56 #[.slice none 0 0]
    simpa using this
  · exact OP.nil_ _ _
 have HO:=hide ho
 have H0:=hide H0
 have HD:=hide (fun W (hW:Below w.heap.size w W)=>(d.grow hW).dI)
 clear ho d
 go_enter Tryz.func81,Tryz.ntmps81
 go_wp2_with fail
 go_loopw [4] (fun i wr=>Uc h m w i wr) (fun i _=>m.iT.length - (intOf i).toNat)
 case atStart=>exact⟨0,none,0,Nat.zero_le _,rfl,H0.out⟩
 case round =>
  clear H0
  obtain⟨k,A,c,hk,rfl,hS⟩:=hrel
  have hS:=hide hS
  obtain⟨a0,a1,a2,a3,a4,a5,a6,a7,a8,a9,a10⟩:=MB.cells hS.out.bm
  have al:=hS.out.bm.lt
  by_cases hlt:k<m.iT.length
  · obtain ⟨b, off, A2,c2,hA,hb,x0,x1,x2,x3,x4,x5,x6,hz,hlc,hcm,hI⟩:=(HD.out wr hS.out.b).item hlt
    have hon:m.iT[k].on.length≤1000:=HO.out _ (List.getElem_mem hlt)
    rw[hA]
    rw[hA] at a5
    go_wp2_with fail
    have HE:=hide (Ad.empty (B:=wr.heap.size) wr (Nat.le_refl _) (g:=wr.heap.size) rfl)
    have HBE:=hide ((Below.refl wr.heap.size wr).alloc (Nat.le_refl _) (.cells #[] 72))
    have HI:=hide (And.intro hI (And.intro hlc hcm))
    have HX6:=hide x6
    have HM:=hide hS.out.bm
    have HA:=hide hA
    clear hA hI x0 x1 x2 x3 x4 x5 x6 hz hlc hcm a0 a1 a2 a3 a4 a5 a6 a7 a8 a9 a10
    rename World=>W0
    go_loopw [5,6] (fun v i wr=>Tm W0 m.iT[k].on v i wr) (fun _ i _=>m.iT[k].on.length - (intOf i).toNat)
    case atStart=>exact⟨0,Nat.zero_le _,rfl,HE.out,HBE.out⟩
    case round =>
     obtain⟨n,hn,rfl,hO,hbq⟩:=hrel
     obtain⟨a0,a1,a2,a3,a4,a5,a6,a7,a8,a9,a10⟩:=MB.cells (HM.out.below hbq al)
     have aq:=Nat.lt_of_lt_of_le al hbq.size
     have x6:=(hbq.cell (p:=⟨b,off+k*7+6,none⟩) hb).trans HX6.out
     have hbl:=Nat.lt_of_lt_of_le hb hbq.size
     rw[HA.out] at a5
     have HO1:=hide hO
     have HBQ:=hide hbq
     by_cases hln:n<m.iT[k].on.length
     · obtain ⟨b2, off2,hA2,hb2,y0⟩:=Dy (HI.out.1.grow hbq) hln
       subst hA2
       have hkl:(Bl (m.iT[k].on.take n)).length≤1000:=by rw[LV];simp;omega
       have HKL:=hide hkl
       have HT:=hide (KH m.iT[k].on hln)
       have HO2:=hide (hO.keep (KT.alloc wr (.cells #[.int .i64 m.iT[k].on[n],.int .i64 0] 72)))
       have HNU:=hide (JJ wr m.iT[k].on[n] 0)
       clear hO hbq hkl
       obtain⟨q,hq⟩:∃ q,q=Bl (m.iT[k].on.take n):=⟨_,rfl⟩
       rw[← hq] at HO1 HO2 HKL HT
       clear hq
       go_wp2_with (at_builtin;refine Dn rfl _ _ rfl W0.heap.size _ q rfl HO2.out (wr.heap.size+1) (some ⟨wr.heap.size,0,none⟩) 1 _ [(m.iT[k].on[n],0)] rfl rfl HNU.out (by have:=HKL.out;simp;omega) (by have:=HBQ.out.size;simp;omega) ?_;intro v3 w3 ho3 hg3 _
                    have hb3:Below W0.heap.size W0 w3:=(HBQ.out.alloc HBQ.out.size _).grown hg3 (by have:=HBQ.out.size;simp;omega) (fun g hg=>(HO1.out.lt g hg).1)
                    have HN:=hide (And.intro ho3 hb3)
                    clear ho3 hg3 hb3)
       go_roundw
       case rel=>exact⟨n+1,by omega,by go_num,by rw[← HT.out];exact HN.out.1,HN.out.2⟩
       case measure=>simp[intOf];omega
     · obtain rfl : n=m.iT[k].on.length:=by omega
       rw[List.take_length] at hO
       obtain⟨A3,c3,rfl,_⟩:=hO.ut.form
       have hbx:=hS.out.bx.below hbq hS.out.bx.lt
       have bx0:=hbx.cell 0
       have bxl:=hbx.lt
       simp at bx0
       obtain⟨q,hq⟩:∃ q,q=(Al m).take k:=⟨_,rfl⟩
       have HL:=hide (show q.length=k by rw[hq];simp[DY];omega)
       have hop:=hS.out.op.below hbq
       rw[← hq] at hop
       have HT:=hide (Mx m k hlt)
       rw[← hq] at HT
       have HBX:=hide hbx
       have HOP:=hide (hop.keep (KT.alloc wr (.cells #[.slice A3 (Bl m.iT[k].on).length c3] 57)) (KT.alloc wr (.cells #[.slice A3 (Bl m.iT[k].on).length c3] 57)))
       have HU:=hide (hO.ut.keep (KT.alloc wr (.cells #[.slice A3 (Bl m.iT[k].on).length c3] 57)))
       have HRD:=hide (Reads.newRow wr #[.slice A3 (Bl m.iT[k].on).length c3] 57 1 1 rfl)
       clear hO hbq hbx hop hq HO1
       go_wp2_with (at_builtin;refine J3 rfl _ _ rfl (w.heap.size+3) (.slice A k c) q rfl HOP.out _ _ 1 (.slice A3 (Bl m.iT[k].on).length c3) (Bl m.iT[k].on) rfl HRD.out HU.out (by rw[HL.out];omega) (by simp;omega) ?_;intro v3 w3 ho3 hg3 _
                    obtain⟨A4,c4,e4,_⟩:=ho3.pt.form
                    rw[List.length_append,HL.out] at e4
                    subst e4
                    have hbx3:=(HBX.out.alloc (.cells #[.slice A3 (Bl m.iT[k].on).length c3] 57)).grown hg3 (fun e=>by have:=(HOP.out.lt _ e.symm).1;omega)
                    have b30:=hbx3.cell 0
                    have b3f:=hbx3.frozen 0
                    have b3l:=hbx3.lt
                    simp at b30
                    have HN:=hide (hS.out.next (W:=W0) (Below.refl _ _) (show Below W0.drew.heap.size W0.drew wr from⟨HBQ.out.os,HBQ.out.tape,HBQ.out.output,HBQ.out.size,HBQ.out.block⟩) hg3 HOP.out (by rw[← HT.out];exact ho3))
                    clear hbx3 hg3 ho3)
       go_roundw
       case rel=>exact⟨k+1,A4,c4,by omega,by go_num,HN.out⟩
       case measure=>simp[intOf];omega
  · obtain rfl:k=m.iT.length:=by omega
    have x0:=hS.out.bx.cell 0
    have xl:=hS.out.bx.lt
    have r0:=hS.out.br.cell 0
    have rf:=hS.out.br.frozen 0
    have rl:=hS.out.br.lt
    simp at x0 r0
    go_wp2_with fail
    refine bodyPost_ret (v:=.agg #[.slice A m.iT.length c]) (by simp[results,Tryz.results81,go_sem, *]) rfl ?_
    have hop:=hS.out.op.pt
    rw[List.take_of_length_le (by rw[DY];exact Nat.le_refl _)] at hop
    refine⟨A,c,by rw[DY],by rw[DY];exact hop.keep (KT.set_ hS.out.br (by decide) 0 _) (KT.set_ hS.out.br (by decide) 0 _),hS.out.b.setCell (by simp) _⟩
end Go.Proofs.YtfemlajeomohhaaGreatDoor
