/- A part of the claim: see its last text. -/
import Derived.Test.YtfemlajeomohhaaGreatDoorUK35

set_option maxRecDepth 100000
set_option maxHeartbeats 16000000
namespace Go.Proofs.YtfemlajeomohhaaGreatDoor
open Go Go.RowKit Go.Proofs
def Ce(w:World)(v:Value)(e:Ending)(w':World):Prop:=e=.returned v∧Below w.heap.size w w'
theorem CO (h:MH) (m:AC) (by_:Int) (w:World):Calls Tryz.prog 136 #[.agg #[.slice h.s m.sT.length h.sc,.slice h.f m.fT.length h.fc,.slice h.r m.rT.length h.rc,.slice h.m m.mT.length h.mc,.slice h.l m.lT.length h.lc,.slice h.i m.iT.length h.ic,.int .i64 m.dT,.int .i64 m.oT,.int .i64 m.vT,.int .i64 m.aT,.slice h.u m.uT.length h.uc],.int .i64 by_] w (Ce w (.int .i64 (AZ m by_))):=by
 have HB:=hide ((Below.refl w.heap.size w).alloc (Nat.le_refl _) (.cells #[.slice h.s m.sT.length h.sc,.slice h.f m.fT.length h.fc,.slice h.r m.rT.length h.rc,.slice h.m m.mT.length h.mc,.slice h.l m.lT.length h.lc,.slice h.i m.iT.length h.ic,.int .i64 m.dT,.int .i64 m.oT,.int .i64 m.vT,.int .i64 m.aT,.slice h.u m.uT.length h.uc] 29))
 have hB:∀ b:Bool,b=false∨b=true:=fun b=>by cases b <;> simp
 rcases hB (by_ == 1) with e1|e1
 · rcases hB (by_ == 2) with e2|e2
   · rcases hB (by_ == 3) with e3|e3
     · rcases hB (by_ == 4) with e4|e4
       · have HV:=hide (show AZ m by_=0 by simp at e1 e2 e3 e4;simp[AZ,e1,e2,e3,e4])
         go_enter Tryz.func136,Tryz.ntmps136
         go_wp2_with fail
         go_ret
         exact⟨AJ (by rw[HV.out];rfl),HB.out⟩
       · have HV:=hide (show AZ m by_=m.sT.length by simp at e4;subst e4;simp[AZ])
         go_enter Tryz.func136,Tryz.ntmps136
         go_wp2_with fail
         go_ret
         exact⟨AJ (by rw[HV.out];rfl),HB.out⟩
     · have HV:=hide (show AZ m by_=m.fT.length by simp at e3;subst e3;simp[AZ])
       go_enter Tryz.func136,Tryz.ntmps136
       go_wp2_with fail
       go_ret
       exact⟨AJ (by rw[HV.out];rfl),HB.out⟩
   · have HV:=hide (show AZ m by_=m.rT.length by simp at e2;subst e2;simp[AZ])
     go_enter Tryz.func136,Tryz.ntmps136
     go_wp2_with fail
     go_ret
     exact⟨AJ (by rw[HV.out];rfl),HB.out⟩
 · have HV:=hide (show AZ m by_=m.mT.length by simp at e1;subst e1;simp[AZ])
   go_enter Tryz.func136,Tryz.ntmps136
   go_wp2_with fail
   go_ret
   exact⟨AJ (by rw[HV.out];rfl),HB.out⟩
theorem Nh (h:MH) (m:AC) (by_ mc:Int) (w:World) (_hl:m.mT.length≤9223372036854775807) (hx:AP mc m.mT.length=false) :
    Calls Tryz.prog 88 #[.agg #[.slice h.s m.sT.length h.sc,.slice h.f m.fT.length h.fc,.slice h.r m.rT.length h.rc,.slice h.m m.mT.length h.mc,.slice h.l m.lT.length h.lc,.slice h.i m.iT.length h.ic,.int .i64 m.dT,.int .i64 m.oT,.int .i64 m.vT,.int .i64 m.aT,.slice h.u m.uT.length h.uc],.int .i64 by_,.int .i64 mc] w (Ce w (.int .i64 0)):=by
 have HB:=hide ((Below.refl w.heap.size w).alloc (Nat.le_refl _) (.cells #[.slice h.s m.sT.length h.sc,.slice h.f m.fT.length h.fc,.slice h.r m.rT.length h.rc,.slice h.m m.mT.length h.mc,.slice h.l m.lT.length h.lc,.slice h.i m.iT.length h.ic,.int .i64 m.dT,.int .i64 m.oT,.int .i64 m.vT,.int .i64 m.aT,.slice h.u m.uT.length h.uc] 29))
 have HX:=hide hx
 clear hx
 go_enter Tryz.func88,Tryz.ntmps88
 go_wp2_with (go_at_call 21;refine(Aa _ _ _).mono ?_;rintro e w2 ⟨rfl,rfl⟩;rw[HX.out])
 go_ret
 exact⟨rfl,HB.out⟩
theorem Sz (h:MH) (m:AC) (mc:Int) (w:World) (_hl:m.mT.length≤9223372036854775807) (hx:AP mc m.mT.length=true) (hq:AP mc (AZ m 1)=false) :
    Calls Tryz.prog 88 #[.agg #[.slice h.s m.sT.length h.sc,.slice h.f m.fT.length h.fc,.slice h.r m.rT.length h.rc,.slice h.m m.mT.length h.mc,.slice h.l m.lT.length h.lc,.slice h.i m.iT.length h.ic,.int .i64 m.dT,.int .i64 m.oT,.int .i64 m.vT,.int .i64 m.aT,.slice h.u m.uT.length h.uc],.int .i64 1,.int .i64 mc] w (Ce w (.int .i64 0)):=by
 have HB:=hide ((Below.refl w.heap.size w).alloc (Nat.le_refl _) (.cells #[.slice h.s m.sT.length h.sc,.slice h.f m.fT.length h.fc,.slice h.r m.rT.length h.rc,.slice h.m m.mT.length h.mc,.slice h.l m.lT.length h.lc,.slice h.i m.iT.length h.ic,.int .i64 m.dT,.int .i64 m.oT,.int .i64 m.vT,.int .i64 m.aT,.slice h.u m.uT.length h.uc] 29))
 have HDS:=hide (CO h m 1 (w.alloc (.cells #[.slice h.s m.sT.length h.sc,.slice h.f m.fT.length h.fc,.slice h.r m.rT.length h.rc,.slice h.m m.mT.length h.mc,.slice h.l m.lT.length h.lc,.slice h.i m.iT.length h.ic,.int .i64 m.dT,.int .i64 m.oT,.int .i64 m.vT,.int .i64 m.aT,.slice h.u m.uT.length h.uc] 29)))
 have HX:=hide hx
 have HE:=hide hq
 have HR:=hide True.intro
 clear hx hq
 go_enter Tryz.func88,Tryz.ntmps88
 go_wp2_with (first
  | (go_at_call 21;refine(Aa _ _ _).mono ?_;rintro e w2 ⟨rfl,rfl⟩;first|rw[HX.out]|rw[HE.out])
  | (go_at_call 136;refine HDS.out.mono ?_;rintro e w3 ⟨rfl,hb3⟩))
 go_ret
 exact⟨rfl,HB.out.trans (hb3.mono HB.out.size)⟩
theorem S9 (h:MH) (m:AC) (mc:Int) (w:World) (_hl:m.mT.length≤9223372036854775807) (hx:AP mc m.mT.length=true) (hq:AP mc (AZ m 1)=true) :
    Calls Tryz.prog 88 #[.agg #[.slice h.s m.sT.length h.sc,.slice h.f m.fT.length h.fc,.slice h.r m.rT.length h.rc,.slice h.m m.mT.length h.mc,.slice h.l m.lT.length h.lc,.slice h.i m.iT.length h.ic,.int .i64 m.dT,.int .i64 m.oT,.int .i64 m.vT,.int .i64 m.aT,.slice h.u m.uT.length h.uc],.int .i64 1,.int .i64 mc] w (Ce w (.int .i64 mc)):=by
 have HB:=hide ((Below.refl w.heap.size w).alloc (Nat.le_refl _) (.cells #[.slice h.s m.sT.length h.sc,.slice h.f m.fT.length h.fc,.slice h.r m.rT.length h.rc,.slice h.m m.mT.length h.mc,.slice h.l m.lT.length h.lc,.slice h.i m.iT.length h.ic,.int .i64 m.dT,.int .i64 m.oT,.int .i64 m.vT,.int .i64 m.aT,.slice h.u m.uT.length h.uc] 29))
 have HDS:=hide (CO h m 1 (w.alloc (.cells #[.slice h.s m.sT.length h.sc,.slice h.f m.fT.length h.fc,.slice h.r m.rT.length h.rc,.slice h.m m.mT.length h.mc,.slice h.l m.lT.length h.lc,.slice h.i m.iT.length h.ic,.int .i64 m.dT,.int .i64 m.oT,.int .i64 m.vT,.int .i64 m.aT,.slice h.u m.uT.length h.uc] 29)))
 have HX:=hide hx
 have HE:=hide hq
 have HR:=hide True.intro
 clear hx hq
 go_enter Tryz.func88,Tryz.ntmps88
 go_wp2_with (first
  | (go_at_call 21;refine(Aa _ _ _).mono ?_;rintro e w2 ⟨rfl,rfl⟩;first|rw[HX.out]|rw[HE.out])
  | (go_at_call 136;refine HDS.out.mono ?_;rintro e w3 ⟨rfl,hb3⟩))
 go_ret
 exact⟨rfl,HB.out.trans (hb3.mono HB.out.size)⟩
theorem Ni (h:MH) (m:AC) (by_:Int) (a:Nat) (rk:Int) (b off:Nat) (w:World) (hA:h.m=some ⟨b,off,none⟩) (hb:b<w.heap.size) (x1:w.cell? ⟨b,off+a*3+1,none⟩=some (.int .i64 rk)) (haI:(a:Int)<(m.mT.length:Int)) (hl:m.mT.length≤9223372036854775807) (_hl2:m.rT.length≤9223372036854775807) (g1:(by_ == 1)=false) (hx:AP ((a:Int)+1) m.mT.length=true) (hr:AP rk m.rT.length=false) :
    Calls Tryz.prog 88 #[.agg #[.slice h.s m.sT.length h.sc,.slice h.f m.fT.length h.fc,.slice h.r m.rT.length h.rc,.slice h.m m.mT.length h.mc,.slice h.l m.lT.length h.lc,.slice h.i m.iT.length h.ic,.int .i64 m.dT,.int .i64 m.oT,.int .i64 m.vT,.int .i64 m.aT,.slice h.u m.uT.length h.uc],.int .i64 by_,.int .i64 ((a:Int)+1)] w (Ce w (.int .i64 0)):=by
 have hb0:=(Below.refl w.heap.size w).alloc (Nat.le_refl _) (.cells #[.slice h.s m.sT.length h.sc,.slice h.f m.fT.length h.fc,.slice h.r m.rT.length h.rc,.slice h.m m.mT.length h.mc,.slice h.l m.lT.length h.lc,.slice h.i m.iT.length h.ic,.int .i64 m.dT,.int .i64 m.oT,.int .i64 m.vT,.int .i64 m.aT,.slice h.u m.uT.length h.uc] 29)
 have y1:=(hb0.cell (p:=⟨b,off+a*3+1,none⟩) hb).trans x1
 have bl:=Nat.lt_of_lt_of_le hb hb0.size
 have HB:=hide hb0
 have HX:=hide hx
 have HR:=hide hr
 have ha0:(0:Int)≤(a:Int):=by omega
 rw[hA] at HB y1 bl ⊢
 clear hb0 hx hr x1 hb hA
 go_enter Tryz.func88,Tryz.ntmps88
 go_wp2_with (go_at_call 21;refine(Aa _ _ _).mono ?_;rintro e w2 ⟨rfl,rfl⟩;first|rw[HX.out]|rw[HR.out])
 go_ret
 exact⟨rfl,HB.out⟩
theorem TA (h:MH) (m:AC) (a q:Nat) (b off b2 off2:Nat) (r1 r2:Int) (w:World) (hA:h.m=some ⟨b,off,none⟩) (hb:b<w.heap.size) (x1:w.cell? ⟨b,off+a*3+1,none⟩=some (.int .i64 ((q:Int)+1))) (hA2:h.r=some ⟨b2,off2,none⟩) (hb2:b2<w.heap.size) (x2:w.cell? ⟨b2,off2+q*3+1,none⟩=some (.int .i64 r1)) (x3:w.cell? ⟨b2,off2+q*3+2,none⟩=some (.int .i64 r2)) (haI:(a:Int)<(m.mT.length:Int)) (hqI:(q:Int)<(m.rT.length:Int)) (hl:m.mT.length≤9223372036854775807) (hl2:m.rT.length≤9223372036854775807) (hx:AP ((a:Int)+1) m.mT.length=true) (hr:AP ((q:Int)+1) m.rT.length=true) (hq:AP r2 (AZ m 3)=false) :
    Calls Tryz.prog 88 #[.agg #[.slice h.s m.sT.length h.sc,.slice h.f m.fT.length h.fc,.slice h.r m.rT.length h.rc,.slice h.m m.mT.length h.mc,.slice h.l m.lT.length h.lc,.slice h.i m.iT.length h.ic,.int .i64 m.dT,.int .i64 m.oT,.int .i64 m.vT,.int .i64 m.aT,.slice h.u m.uT.length h.uc],.int .i64 3,.int .i64 ((a:Int)+1)] w (Ce w (.int .i64 0)):=by
 have hb0:=(Below.refl w.heap.size w).alloc (Nat.le_refl _) (.cells #[.slice h.s m.sT.length h.sc,.slice h.f m.fT.length h.fc,.slice h.r m.rT.length h.rc,.slice h.m m.mT.length h.mc,.slice h.l m.lT.length h.lc,.slice h.i m.iT.length h.ic,.int .i64 m.dT,.int .i64 m.oT,.int .i64 m.vT,.int .i64 m.aT,.slice h.u m.uT.length h.uc] 29)
 have y1:=(hb0.cell (p:=⟨b,off+a*3+1,none⟩) hb).trans x1
 have y2:=(hb0.cell (p:=⟨b2,off2+q*3+1,none⟩) hb2).trans x2
 have y3:=(hb0.cell (p:=⟨b2,off2+q*3+2,none⟩) hb2).trans x3
 have bl:=Nat.lt_of_lt_of_le hb hb0.size
 have bl2:=Nat.lt_of_lt_of_le hb2 hb0.size
 have HB:=hide hb0
 have HX:=hide hx
 have HR:=hide hr
 have HE:=hide hq
 have HDS:=hide (CO h m 3 (w.alloc (.cells #[.slice h.s m.sT.length h.sc,.slice h.f m.fT.length h.fc,.slice h.r m.rT.length h.rc,.slice h.m m.mT.length h.mc,.slice h.l m.lT.length h.lc,.slice h.i m.iT.length h.ic,.int .i64 m.dT,.int .i64 m.oT,.int .i64 m.vT,.int .i64 m.aT,.slice h.u m.uT.length h.uc] 29)))
 rw[hA,hA2] at HDS HB y1 y2 y3 bl bl2 ⊢
 clear hb0 hx hr hq x1 x2 x3 hb hb2 hA hA2
 go_enter Tryz.func88,Tryz.ntmps88
 go_wp2_with (first
  | (go_at_call 21;refine(Aa _ _ _).mono ?_;rintro e w2 ⟨rfl,rfl⟩;first|rw[HX.out]|rw[HR.out]|rw[HE.out])
  | (go_at_call 136;refine HDS.out.mono ?_;rintro e w3 ⟨rfl,hb3⟩))
 go_ret
 exact⟨rfl,HB.out.trans (hb3.mono HB.out.size)⟩
theorem TB (h:MH) (m:AC) (a q:Nat) (b off b2 off2:Nat) (r1 r2:Int) (w:World) (hA:h.m=some ⟨b,off,none⟩) (hb:b<w.heap.size) (x1:w.cell? ⟨b,off+a*3+1,none⟩=some (.int .i64 ((q:Int)+1))) (hA2:h.r=some ⟨b2,off2,none⟩) (hb2:b2<w.heap.size) (x2:w.cell? ⟨b2,off2+q*3+1,none⟩=some (.int .i64 r1)) (x3:w.cell? ⟨b2,off2+q*3+2,none⟩=some (.int .i64 r2)) (haI:(a:Int)<(m.mT.length:Int)) (hqI:(q:Int)<(m.rT.length:Int)) (hl:m.mT.length≤9223372036854775807) (hl2:m.rT.length≤9223372036854775807) (hx:AP ((a:Int)+1) m.mT.length=true) (hr:AP ((q:Int)+1) m.rT.length=true) (hq:AP r2 (AZ m 3)=true) :
    Calls Tryz.prog 88 #[.agg #[.slice h.s m.sT.length h.sc,.slice h.f m.fT.length h.fc,.slice h.r m.rT.length h.rc,.slice h.m m.mT.length h.mc,.slice h.l m.lT.length h.lc,.slice h.i m.iT.length h.ic,.int .i64 m.dT,.int .i64 m.oT,.int .i64 m.vT,.int .i64 m.aT,.slice h.u m.uT.length h.uc],.int .i64 3,.int .i64 ((a:Int)+1)] w (Ce w (.int .i64 r2)):=by
 have hb0:=(Below.refl w.heap.size w).alloc (Nat.le_refl _) (.cells #[.slice h.s m.sT.length h.sc,.slice h.f m.fT.length h.fc,.slice h.r m.rT.length h.rc,.slice h.m m.mT.length h.mc,.slice h.l m.lT.length h.lc,.slice h.i m.iT.length h.ic,.int .i64 m.dT,.int .i64 m.oT,.int .i64 m.vT,.int .i64 m.aT,.slice h.u m.uT.length h.uc] 29)
 have y1:=(hb0.cell (p:=⟨b,off+a*3+1,none⟩) hb).trans x1
 have y2:=(hb0.cell (p:=⟨b2,off2+q*3+1,none⟩) hb2).trans x2
 have y3:=(hb0.cell (p:=⟨b2,off2+q*3+2,none⟩) hb2).trans x3
 have bl:=Nat.lt_of_lt_of_le hb hb0.size
 have bl2:=Nat.lt_of_lt_of_le hb2 hb0.size
 have HB:=hide hb0
 have HX:=hide hx
 have HR:=hide hr
 have HE:=hide hq
 have HDS:=hide (CO h m 3 (w.alloc (.cells #[.slice h.s m.sT.length h.sc,.slice h.f m.fT.length h.fc,.slice h.r m.rT.length h.rc,.slice h.m m.mT.length h.mc,.slice h.l m.lT.length h.lc,.slice h.i m.iT.length h.ic,.int .i64 m.dT,.int .i64 m.oT,.int .i64 m.vT,.int .i64 m.aT,.slice h.u m.uT.length h.uc] 29)))
 rw[hA,hA2] at HDS HB y1 y2 y3 bl bl2 ⊢
 clear hb0 hx hr hq x1 x2 x3 hb hb2 hA hA2
 go_enter Tryz.func88,Tryz.ntmps88
 go_wp2_with (first
  | (go_at_call 21;refine(Aa _ _ _).mono ?_;rintro e w2 ⟨rfl,rfl⟩;first|rw[HX.out]|rw[HR.out]|rw[HE.out])
  | (go_at_call 136;refine HDS.out.mono ?_;rintro e w3 ⟨rfl,hb3⟩))
 go_ret
 exact⟨rfl,HB.out.trans (hb3.mono HB.out.size)⟩
theorem TC (h:MH) (m:AC) (a q:Nat) (b off b2 off2:Nat) (r1 r2:Int) (w:World) (hA:h.m=some ⟨b,off,none⟩) (hb:b<w.heap.size) (x1:w.cell? ⟨b,off+a*3+1,none⟩=some (.int .i64 ((q:Int)+1))) (hA2:h.r=some ⟨b2,off2,none⟩) (hb2:b2<w.heap.size) (x2:w.cell? ⟨b2,off2+q*3+1,none⟩=some (.int .i64 r1)) (x3:w.cell? ⟨b2,off2+q*3+2,none⟩=some (.int .i64 r2)) (haI:(a:Int)<(m.mT.length:Int)) (hqI:(q:Int)<(m.rT.length:Int)) (hl:m.mT.length≤9223372036854775807) (hl2:m.rT.length≤9223372036854775807) (hx:AP ((a:Int)+1) m.mT.length=true) (hr:AP ((q:Int)+1) m.rT.length=true) (hq:AP r1 (AZ m 4)=false) :
    Calls Tryz.prog 88 #[.agg #[.slice h.s m.sT.length h.sc,.slice h.f m.fT.length h.fc,.slice h.r m.rT.length h.rc,.slice h.m m.mT.length h.mc,.slice h.l m.lT.length h.lc,.slice h.i m.iT.length h.ic,.int .i64 m.dT,.int .i64 m.oT,.int .i64 m.vT,.int .i64 m.aT,.slice h.u m.uT.length h.uc],.int .i64 4,.int .i64 ((a:Int)+1)] w (Ce w (.int .i64 0)):=by
 have hb0:=(Below.refl w.heap.size w).alloc (Nat.le_refl _) (.cells #[.slice h.s m.sT.length h.sc,.slice h.f m.fT.length h.fc,.slice h.r m.rT.length h.rc,.slice h.m m.mT.length h.mc,.slice h.l m.lT.length h.lc,.slice h.i m.iT.length h.ic,.int .i64 m.dT,.int .i64 m.oT,.int .i64 m.vT,.int .i64 m.aT,.slice h.u m.uT.length h.uc] 29)
 have y1:=(hb0.cell (p:=⟨b,off+a*3+1,none⟩) hb).trans x1
 have y2:=(hb0.cell (p:=⟨b2,off2+q*3+1,none⟩) hb2).trans x2
 have y3:=(hb0.cell (p:=⟨b2,off2+q*3+2,none⟩) hb2).trans x3
 have bl:=Nat.lt_of_lt_of_le hb hb0.size
 have bl2:=Nat.lt_of_lt_of_le hb2 hb0.size
 have HB:=hide hb0
 have HX:=hide hx
 have HR:=hide hr
 have HE:=hide hq
 have HDS:=hide (CO h m 4 (w.alloc (.cells #[.slice h.s m.sT.length h.sc,.slice h.f m.fT.length h.fc,.slice h.r m.rT.length h.rc,.slice h.m m.mT.length h.mc,.slice h.l m.lT.length h.lc,.slice h.i m.iT.length h.ic,.int .i64 m.dT,.int .i64 m.oT,.int .i64 m.vT,.int .i64 m.aT,.slice h.u m.uT.length h.uc] 29)))
 rw[hA,hA2] at HDS HB y1 y2 y3 bl bl2 ⊢
 clear hb0 hx hr hq x1 x2 x3 hb hb2 hA hA2
 go_enter Tryz.func88,Tryz.ntmps88
 go_wp2_with (first
  | (go_at_call 21;refine(Aa _ _ _).mono ?_;rintro e w2 ⟨rfl,rfl⟩;first|rw[HX.out]|rw[HR.out]|rw[HE.out])
  | (go_at_call 136;refine HDS.out.mono ?_;rintro e w3 ⟨rfl,hb3⟩))
 go_ret
 exact⟨rfl,HB.out.trans (hb3.mono HB.out.size)⟩
theorem TD (h:MH) (m:AC) (a q:Nat) (b off b2 off2:Nat) (r1 r2:Int) (w:World) (hA:h.m=some ⟨b,off,none⟩) (hb:b<w.heap.size) (x1:w.cell? ⟨b,off+a*3+1,none⟩=some (.int .i64 ((q:Int)+1))) (hA2:h.r=some ⟨b2,off2,none⟩) (hb2:b2<w.heap.size) (x2:w.cell? ⟨b2,off2+q*3+1,none⟩=some (.int .i64 r1)) (x3:w.cell? ⟨b2,off2+q*3+2,none⟩=some (.int .i64 r2)) (haI:(a:Int)<(m.mT.length:Int)) (hqI:(q:Int)<(m.rT.length:Int)) (hl:m.mT.length≤9223372036854775807) (hl2:m.rT.length≤9223372036854775807) (hx:AP ((a:Int)+1) m.mT.length=true) (hr:AP ((q:Int)+1) m.rT.length=true) (hq:AP r1 (AZ m 4)=true) :
    Calls Tryz.prog 88 #[.agg #[.slice h.s m.sT.length h.sc,.slice h.f m.fT.length h.fc,.slice h.r m.rT.length h.rc,.slice h.m m.mT.length h.mc,.slice h.l m.lT.length h.lc,.slice h.i m.iT.length h.ic,.int .i64 m.dT,.int .i64 m.oT,.int .i64 m.vT,.int .i64 m.aT,.slice h.u m.uT.length h.uc],.int .i64 4,.int .i64 ((a:Int)+1)] w (Ce w (.int .i64 r1)):=by
 have hb0:=(Below.refl w.heap.size w).alloc (Nat.le_refl _) (.cells #[.slice h.s m.sT.length h.sc,.slice h.f m.fT.length h.fc,.slice h.r m.rT.length h.rc,.slice h.m m.mT.length h.mc,.slice h.l m.lT.length h.lc,.slice h.i m.iT.length h.ic,.int .i64 m.dT,.int .i64 m.oT,.int .i64 m.vT,.int .i64 m.aT,.slice h.u m.uT.length h.uc] 29)
 have y1:=(hb0.cell (p:=⟨b,off+a*3+1,none⟩) hb).trans x1
 have y2:=(hb0.cell (p:=⟨b2,off2+q*3+1,none⟩) hb2).trans x2
 have y3:=(hb0.cell (p:=⟨b2,off2+q*3+2,none⟩) hb2).trans x3
 have bl:=Nat.lt_of_lt_of_le hb hb0.size
 have bl2:=Nat.lt_of_lt_of_le hb2 hb0.size
 have HB:=hide hb0
 have HX:=hide hx
 have HR:=hide hr
 have HE:=hide hq
 have HDS:=hide (CO h m 4 (w.alloc (.cells #[.slice h.s m.sT.length h.sc,.slice h.f m.fT.length h.fc,.slice h.r m.rT.length h.rc,.slice h.m m.mT.length h.mc,.slice h.l m.lT.length h.lc,.slice h.i m.iT.length h.ic,.int .i64 m.dT,.int .i64 m.oT,.int .i64 m.vT,.int .i64 m.aT,.slice h.u m.uT.length h.uc] 29)))
 rw[hA,hA2] at HDS HB y1 y2 y3 bl bl2 ⊢
 clear hb0 hx hr hq x1 x2 x3 hb hb2 hA hA2
 go_enter Tryz.func88,Tryz.ntmps88
 go_wp2_with (first
  | (go_at_call 21;refine(Aa _ _ _).mono ?_;rintro e w2 ⟨rfl,rfl⟩;first|rw[HX.out]|rw[HR.out]|rw[HE.out])
  | (go_at_call 136;refine HDS.out.mono ?_;rintro e w3 ⟨rfl,hb3⟩))
 go_ret
 exact⟨rfl,HB.out.trans (hb3.mono HB.out.size)⟩
theorem TE (h:MH) (m:AC) (by_:Int) (a q:Nat) (b off b2 off2:Nat) (r1 r2:Int) (w:World) (hA:h.m=some ⟨b,off,none⟩) (hb:b<w.heap.size) (x1:w.cell? ⟨b,off+a*3+1,none⟩=some (.int .i64 ((q:Int)+1))) (hA2:h.r=some ⟨b2,off2,none⟩) (hb2:b2<w.heap.size) (x2:w.cell? ⟨b2,off2+q*3+1,none⟩=some (.int .i64 r1)) (x3:w.cell? ⟨b2,off2+q*3+2,none⟩=some (.int .i64 r2)) (haI:(a:Int)<(m.mT.length:Int)) (_hqI:(q:Int)<(m.rT.length:Int)) (hl:m.mT.length≤9223372036854775807) (_hl2:m.rT.length≤9223372036854775807) (g1:(by_ == 1)=false) (g3:(by_ == 3)=false) (g4:(by_ == 4)=false) (hx:AP ((a:Int)+1) m.mT.length=true) (hr:AP ((q:Int)+1) m.rT.length=true) (hq:AP ((q:Int)+1) (AZ m by_)=false) :
    Calls Tryz.prog 88 #[.agg #[.slice h.s m.sT.length h.sc,.slice h.f m.fT.length h.fc,.slice h.r m.rT.length h.rc,.slice h.m m.mT.length h.mc,.slice h.l m.lT.length h.lc,.slice h.i m.iT.length h.ic,.int .i64 m.dT,.int .i64 m.oT,.int .i64 m.vT,.int .i64 m.aT,.slice h.u m.uT.length h.uc],.int .i64 by_,.int .i64 ((a:Int)+1)] w (Ce w (.int .i64 0)):=by
 have hb0:=(Below.refl w.heap.size w).alloc (Nat.le_refl _) (.cells #[.slice h.s m.sT.length h.sc,.slice h.f m.fT.length h.fc,.slice h.r m.rT.length h.rc,.slice h.m m.mT.length h.mc,.slice h.l m.lT.length h.lc,.slice h.i m.iT.length h.ic,.int .i64 m.dT,.int .i64 m.oT,.int .i64 m.vT,.int .i64 m.aT,.slice h.u m.uT.length h.uc] 29)
 have y1:=(hb0.cell (p:=⟨b,off+a*3+1,none⟩) hb).trans x1
 have y2:=(hb0.cell (p:=⟨b2,off2+q*3+1,none⟩) hb2).trans x2
 have y3:=(hb0.cell (p:=⟨b2,off2+q*3+2,none⟩) hb2).trans x3
 have bl:=Nat.lt_of_lt_of_le hb hb0.size
 have bl2:=Nat.lt_of_lt_of_le hb2 hb0.size
 have HB:=hide hb0
 have HX:=hide hx
 have HR:=hide hr
 have HE:=hide hq
 have HDS:=hide (CO h m by_ (w.alloc (.cells #[.slice h.s m.sT.length h.sc,.slice h.f m.fT.length h.fc,.slice h.r m.rT.length h.rc,.slice h.m m.mT.length h.mc,.slice h.l m.lT.length h.lc,.slice h.i m.iT.length h.ic,.int .i64 m.dT,.int .i64 m.oT,.int .i64 m.vT,.int .i64 m.aT,.slice h.u m.uT.length h.uc] 29)))
 rw[hA,hA2] at HDS HB y1 y2 y3 bl bl2 ⊢
 clear hb0 hx hr hq x1 x2 x3 hb hb2 hA hA2
 go_enter Tryz.func88,Tryz.ntmps88
 go_wp2_with (first
  | (go_at_call 21;refine(Aa _ _ _).mono ?_;rintro e w2 ⟨rfl,rfl⟩;first|rw[HX.out]|rw[HR.out]|rw[HE.out])
  | (go_at_call 136;refine HDS.out.mono ?_;rintro e w3 ⟨rfl,hb3⟩))
 go_ret
 exact⟨rfl,HB.out.trans (hb3.mono HB.out.size)⟩
theorem TF (h:MH) (m:AC) (by_:Int) (a q:Nat) (b off b2 off2:Nat) (r1 r2:Int) (w:World) (hA:h.m=some ⟨b,off,none⟩) (hb:b<w.heap.size) (x1:w.cell? ⟨b,off+a*3+1,none⟩=some (.int .i64 ((q:Int)+1))) (hA2:h.r=some ⟨b2,off2,none⟩) (hb2:b2<w.heap.size) (x2:w.cell? ⟨b2,off2+q*3+1,none⟩=some (.int .i64 r1)) (x3:w.cell? ⟨b2,off2+q*3+2,none⟩=some (.int .i64 r2)) (haI:(a:Int)<(m.mT.length:Int)) (_hqI:(q:Int)<(m.rT.length:Int)) (hl:m.mT.length≤9223372036854775807) (_hl2:m.rT.length≤9223372036854775807) (g1:(by_ == 1)=false) (g3:(by_ == 3)=false) (g4:(by_ == 4)=false) (hx:AP ((a:Int)+1) m.mT.length=true) (hr:AP ((q:Int)+1) m.rT.length=true) (hq:AP ((q:Int)+1) (AZ m by_)=true) :
    Calls Tryz.prog 88 #[.agg #[.slice h.s m.sT.length h.sc,.slice h.f m.fT.length h.fc,.slice h.r m.rT.length h.rc,.slice h.m m.mT.length h.mc,.slice h.l m.lT.length h.lc,.slice h.i m.iT.length h.ic,.int .i64 m.dT,.int .i64 m.oT,.int .i64 m.vT,.int .i64 m.aT,.slice h.u m.uT.length h.uc],.int .i64 by_,.int .i64 ((a:Int)+1)] w (Ce w (.int .i64 ((q:Int)+1))):=by
 have hb0:=(Below.refl w.heap.size w).alloc (Nat.le_refl _) (.cells #[.slice h.s m.sT.length h.sc,.slice h.f m.fT.length h.fc,.slice h.r m.rT.length h.rc,.slice h.m m.mT.length h.mc,.slice h.l m.lT.length h.lc,.slice h.i m.iT.length h.ic,.int .i64 m.dT,.int .i64 m.oT,.int .i64 m.vT,.int .i64 m.aT,.slice h.u m.uT.length h.uc] 29)
 have y1:=(hb0.cell (p:=⟨b,off+a*3+1,none⟩) hb).trans x1
 have y2:=(hb0.cell (p:=⟨b2,off2+q*3+1,none⟩) hb2).trans x2
 have y3:=(hb0.cell (p:=⟨b2,off2+q*3+2,none⟩) hb2).trans x3
 have bl:=Nat.lt_of_lt_of_le hb hb0.size
 have bl2:=Nat.lt_of_lt_of_le hb2 hb0.size
 have HB:=hide hb0
 have HX:=hide hx
 have HR:=hide hr
 have HE:=hide hq
 have HDS:=hide (CO h m by_ (w.alloc (.cells #[.slice h.s m.sT.length h.sc,.slice h.f m.fT.length h.fc,.slice h.r m.rT.length h.rc,.slice h.m m.mT.length h.mc,.slice h.l m.lT.length h.lc,.slice h.i m.iT.length h.ic,.int .i64 m.dT,.int .i64 m.oT,.int .i64 m.vT,.int .i64 m.aT,.slice h.u m.uT.length h.uc] 29)))
 rw[hA,hA2] at HDS HB y1 y2 y3 bl bl2 ⊢
 clear hb0 hx hr hq x1 x2 x3 hb hb2 hA hA2
 go_enter Tryz.func88,Tryz.ntmps88
 go_wp2_with (first
  | (go_at_call 21;refine(Aa _ _ _).mono ?_;rintro e w2 ⟨rfl,rfl⟩;first|rw[HX.out]|rw[HR.out]|rw[HE.out])
  | (go_at_call 136;refine HDS.out.mono ?_;rintro e w3 ⟨rfl,hb3⟩))
 go_ret
 exact⟨rfl,HB.out.trans (hb3.mono HB.out.size)⟩
theorem Kg {m:AC} {by_ mc n:Int} (hx:AP mc m.mT.length=true) (hn:Es m by_ mc=n):BN m by_ mc=if AP n (AZ m by_)=true then n else 0:=by
 unfold BN
 rw[hx,hn,Bool.true_and]
theorem H8 (h:MH) (m:AC) (by_ mc:Int) (w:World) (d:MD w w.heap.size h m):Calls Tryz.prog 88 #[.agg #[.slice h.s m.sT.length h.sc,.slice h.f m.fT.length h.fc,.slice h.r m.rT.length h.rc,.slice h.m m.mT.length h.mc,.slice h.l m.lT.length h.lc,.slice h.i m.iT.length h.ic,.int .i64 m.dT,.int .i64 m.oT,.int .i64 m.vT,.int .i64 m.aT,.slice h.u m.uT.length h.uc],.int .i64 by_,.int .i64 mc] w (Ce w (.int .i64 (BN m by_ mc))):=by
 have hB:∀ b:Bool,b=false∨b=true:=fun b=>by cases b <;> simp
 rcases hB (AP mc m.mT.length) with hx|hx
 · rw[show BN m by_ mc=0 by simp[BN,hx]]
   exact Nh h m by_ mc w d.ml hx
 have hx2:=hx
 simp only[AP,Bool.and_eq_true,decide_eq_true_eq] at hx2
 obtain⟨a,ha,rfl⟩:∃ a:Nat,a<m.mT.length∧mc=(a:Int)+1:=⟨(mc - 1).toNat,by omega,by omega⟩
 by_cases h1:by_=1
 · subst h1
   rw[Kg hx (show Es m 1 ((a:Int)+1)=(a:Int)+1 by simp[Es])]
   rcases hB (AP ((a:Int)+1) (AZ m 1)) with hq|hq
   · rw[hq];exact Sz h m _ w d.ml hx hq
   · rw[hq];exact S9 h m _ w d.ml hx hq
 have g1:(by_ == 1)=false:=by simpa using h1
 obtain⟨b,off,eA,hb,_,x1,_⟩:=d.dM.mach ha
 have hN:Es m by_ ((a:Int)+1)=if AP m.mT[a].rack m.rT.length then(match m.rT[(m.mT[a].rack - 1).toNat]? with
       | none=>0
       | some r=>if by_=3 then r.feed else if by_=4 then r.site else m.mT[a].rack) else 0:=by
  have:((a:Int)+1 - 1).toNat=a:=by omega
  simp[Es,h1,ha]
  rfl
 rcases hB (AP m.mT[a].rack m.rT.length) with hr|hr
 · rw[Kg hx hN,hr]
   simp only[Bool.false_eq_true,↓reduceIte]
   rw[show(if AP 0 (AZ m by_)=true then(0:Int) else 0)=0 by split <;> rfl]
   exact Ni h m by_ a _ b off w eA hb x1 (by omega) d.ml d.rl g1 hx hr
 have hr2:=hr
 simp only[AP,Bool.and_eq_true,decide_eq_true_eq] at hr2
 obtain⟨q,hq,hqe⟩:∃ q:Nat,q<m.rT.length∧m.mT[a].rack=(q:Int)+1:=⟨(m.mT[a].rack - 1).toNat,by omega,by omega⟩
 obtain⟨b2,off2,eA2,hb2,_,y1,y2⟩:=d.dR.rack hq
 rw[hr,if_pos rfl,hqe,show((q:Int)+1 - 1).toNat=q by omega,List.getElem?_eq_getElem hq] at hN
 simp only at hN
 rw[hqe] at x1 hr
 rw[Kg hx hN]
 by_cases h3:by_=3
 · subst h3
   rw[if_pos rfl]
   rcases hB (AP m.rT[q].feed (AZ m 3)) with hz|hz
   · rw[hz];exact TA h m a q b off b2 off2 m.rT[q].site m.rT[q].feed w eA hb x1 eA2 hb2 y1 y2.1 (by omega) (by omega) d.ml d.rl hx hr hz
   · rw[hz];exact TB h m a q b off b2 off2 m.rT[q].site m.rT[q].feed w eA hb x1 eA2 hb2 y1 y2.1 (by omega) (by omega) d.ml d.rl hx hr hz
 rw[if_neg h3]
 have g3:(by_ == 3)=false:=by simpa using h3
 by_cases h4:by_=4
 · subst h4
   rw[if_pos rfl]
   rcases hB (AP m.rT[q].site (AZ m 4)) with hz|hz
   · rw[hz];exact TC h m a q b off b2 off2 m.rT[q].site m.rT[q].feed w eA hb x1 eA2 hb2 y1 y2.1 (by omega) (by omega) d.ml d.rl hx hr hz
   · rw[hz];exact TD h m a q b off b2 off2 m.rT[q].site m.rT[q].feed w eA hb x1 eA2 hb2 y1 y2.1 (by omega) (by omega) d.ml d.rl hx hr hz
 rw[if_neg h4]
 have g4:(by_ == 4)=false:=by simpa using h4
 rcases hB (AP ((q:Int)+1) (AZ m by_)) with hz|hz
 · rw[hz];exact TE h m by_ a q b off b2 off2 m.rT[q].site m.rT[q].feed w eA hb x1 eA2 hb2 y1 y2.1 (by omega) (by omega) d.ml d.rl g1 g3 g4 hx hr hz
 · rw[hz];exact TF h m by_ a q b off b2 off2 m.rT[q].site m.rT[q].feed w eA hb x1 eA2 hb2 y1 y2.1 (by omega) (by omega) d.ml d.rl g1 g3 g4 hx hr hz
theorem Ju (A:Option Addr) (c:Nat) (p:AA) (item:Int) (w:World) (h:PR w w.heap.size A p) (hl:p.length≤9223372036854775807) :
    Calls Tryz.prog 134 #[.agg #[.slice A p.length c],.int .i64 item] w (QS w (AQ p item)):=by
 have HB:=hide ((Below.refl w.heap.size w).alloc (Nat.le_refl _) (.cells #[.slice A p.length c] 56))
 cases e1:AP item p.length
 · have HU:=hide (Du e1)
   go_enter Tryz.func134,Tryz.ntmps134
   go_wp2_with (go_at_call 21;refine(Aa _ _ _).mono ?_;rintro e w2 ⟨rfl,rfl⟩)
   go_ret
   rw[HU.out]
   exact⟨none,0,rfl,⟨rfl,fun h0=>absurd h0 (by simp)⟩,HB.out⟩
 · have hit:1≤item∧item≤(p.length:Int):=by simpa[AP] using e1
   obtain⟨j,hj,rfl⟩:∃ j:Nat,j<p.length∧item=(j:Int)+1:=⟨(item - 1).toNat,by omega,by omega⟩
   obtain⟨b,off,A2,c2,rfl,hb,x0,_,_,hu⟩:=h j hj
   have HU:=hide (DJ hj)
   have HT:=hide hu
   have hjI:(j:Int)<(p.length:Int):=by omega
   clear hu h hit
   go_enter Tryz.func134,Tryz.ntmps134
   go_wp2_with (go_at_call 21;refine(Aa _ _ _).mono ?_;rintro e w2 ⟨rfl,rfl⟩)
   go_ret
   rw[HU.out]
   exact⟨A2,c2,rfl,(HT.out.below HB.out).more HB.out.size,HB.out⟩
theorem Mw (A:Option Addr) (c:Nat) (l:List AO) (mc:Int) (w:World) (hl:l.length≤9223372036854775807) (h:FR w w.heap.size A l) :
    Calls Tryz.prog 135 #[.slice A l.length c,.int .i64 mc] w fun e w'=>e=.returned (.int .i64 (Cg l mc))∧w=w':=by
 go_enter Tryz.func135,Tryz.ntmps135
 go_wp2_with fail
 go_loop [5] (fun i=>∃ k:Nat,k≤l.length∧i=.int .i64 k∧Hid (∀ j (hj:j<l.length),j<k→(fun u:AO=>decide (u.1=mc)) l[j]=false)) (fun i=>l.length - (intOf i).toNat)
 case atStart=>exact⟨0,Nat.zero_le _,rfl,fun j hj h0=>absurd h0 (by omega)⟩
 case round =>
  obtain⟨k,hk,rfl,hs⟩:=hrel
  by_cases hlt:k<l.length
  · obtain ⟨b,off,hA,hb,x0,x1⟩:=h.at_ hlt
    subst hA
    by_cases e1:l[k].1=mc
    · have g1:(l[k].1 == mc)=true:=by simpa using e1
      have HF:=hide (CF (p:=fun u:AO=>decide (u.1=mc)) hlt (by simpa using e1) hs)
      clear e1
      go_wp2_with fail
      go_ret
      exact⟨AJ (by rw[Cg,HF.out];rfl),rfl⟩
    · have g1:(l[k].1 == mc)=false:=by simpa using e1
      have HK:=hide e1
      clear e1
      go_wp2_with fail
      go_round
      case rel=>exact⟨k+1,by omega,by go_num,fun j hj h1=>by
       rcases Nat.lt_or_ge j k with h2|h2
       · exact hs j hj h2
       · obtain rfl:j=k:=by omega
         simpa using HK.out⟩
      case measure=>simp[intOf];omega
  · have HF:=hide (Ba (p:=fun u:AO=>decide (u.1=mc)) fun j hj=>hs j hj (by omega))
    go_wp2_with fail
    go_ret
    exact⟨AJ (by rw[Cg,HF.out];rfl),rfl⟩
def GV(p:AA)(item mc:Int):Option Int:=((AQ p item).find? fun u=>decide (u.1=mc)).map (·.2)
theorem Mq {l:List AO} {f:AO→Bool}:l.find? f=match l.findIdx? f with|some i=>l[i]? | none=>none:=by
 induction l with
 | nil=>rfl
 | cons a l ih =>
   rw[List.find?_cons,List.findIdx?_cons]
   cases h:f a
   · simp only[Bool.false_eq_true,↓reduceIte]
     rw[ih]
     cases l.findIdx? f <;> simp
   · simp
theorem RH (A:Option Addr) (c:Nat) (p:AA) (item mc:Int) (w:World) (h:PR w w.heap.size A p) (hl:p.length≤9223372036854775807) (hul:(AQ p item).length≤9223372036854775807) :
    Calls Tryz.prog 87 #[.agg #[.slice A p.length c],.int .i64 item,.int .i64 mc] w (Ce w (.tuple #[.int .i64 ((GV p item mc).getD 0),.bool (GV p item mc).isSome])):=by
 have hb:=(Below.refl w.heap.size w).alloc (Nat.le_refl _) (.cells #[.slice A p.length c] 56)
 have HB:=hide hb
 have HU:=hide (Ju A c p item _ (h.grow hb) hl)
 have hst:GV p item mc=(match Ch (AQ p item) mc with|some i=>((AQ p item)[i]?)|none=>none).map (fun u:AO=>u.2):=by rw[GV,Mq];rfl
 have hfi:=Dw (AQ p item) mc
 obtain⟨L,hL⟩:∃ L,L=AQ p item:=⟨_,rfl⟩
 rw[← hL] at HU hst hfi hul
 cases hf:Ch L mc with
 | none =>
   rw[hf] at hst hfi
   have HS:=hide (show GV p item mc=none by rw[hst];rfl)
   have HF:=hide hfi
   clear hst hfi hf hb h hL
   go_enter Tryz.func87,Tryz.ntmps87
   go_wp2_with (first
    | (go_at_call 134;refine HU.out.mono ?_;rintro e w1 ⟨A2,c2,rfl,hr,hb1⟩;have HI:=hide (Mw A2 c2 L mc w1 hul hr);rw[HF.out] at HI;have HB1:=hide hb1;clear hr hb1)
    | (go_at_call 135;refine HI.out.mono ?_;rintro e w2 ⟨rfl,rfl⟩))
   go_ret2
   rw[HS.out]
   exact⟨rfl,HB.out.trans (HB1.out.mono HB.out.size)⟩
 | some i =>
   rw[hf] at hst hfi
   have hil:i<L.length:=by
    unfold Ch at hf
    rw[List.findIdx?_eq_some_iff_getElem] at hf
    exact hf.1
   have HS:=hide (show GV p item mc=some L[i].2 by rw[hst];simp[hil])
   have HF:=hide hfi
   have hiI:(i:Int)<(L.length:Int):=by omega
   clear hst hfi hf hb h hL
   go_enter Tryz.func87,Tryz.ntmps87
   go_wp2_with (first
    | (go_at_call 134;refine HU.out.mono ?_;rintro e w1 ⟨A2,c2,rfl,hr,hb1⟩;have HI:=hide (Mw A2 c2 L mc w1 hul hr);rw[HF.out] at HI;have HB1:=hide hb1;obtain⟨b,off,hA,hb,x0,x1⟩:=hr.at_ hil;subst hA;clear hr hb1)
    | (go_at_call 135;refine HI.out.mono ?_;rintro e w2 ⟨rfl,rfl⟩))
   go_ret2
   rw[HS.out]
   exact⟨rfl,HB.out.trans (HB1.out.mono HB.out.size)⟩
def U3(l:List AO)(st:Int)(w:World)(v i:Value)(wr:World):Prop:=∃ k:Nat,k≤l.length∧i=.int .i64 k∧Hid (Av w.heap.size wr v (((l.take k).filter fun u=>decide (u.2=st)).map (·.1)))∧Below w.heap.size w wr
theorem GM (A : Option Addr) (c:Nat) (p:AA) (item st:Int) (w:World) (h:PR w w.heap.size A p) (hl:p.length≤1000) (hul:(AQ p item).length≤1000) :
    Calls Tryz.prog 198 #[.agg #[.slice A p.length c],.int .i64 item,.int .i64 st] w (GZ w (Af p item st)):=by
 have hb:=(Below.refl w.heap.size w).alloc (Nat.le_refl _) (.cells #[.slice A p.length c] 56)
 have HB:=hide hb
 have HU:=hide (Ju A c p item _ (h.grow hb) (by omega))
 have HMP:=hide (show Af p item st=((AQ p item).filter fun u=>decide (u.2=st)).map (·.1) from rfl)
 obtain⟨l,hL⟩:∃ l,l=AQ p item:=⟨_,rfl⟩
 rw[← hL] at HU HMP hul
 clear hL hb h
 go_enter Tryz.func198,Tryz.ntmps198
 go_wp2_with (go_at_call 134;refine HU.out.mono ?_;rintro e w1 ⟨A2,c2,rfl,hr,hb1⟩
              have HR:=hide hr
              have HB1:=hide (HB.out.trans (hb1.mono HB.out.size))
              have HO:=hide (Av.new w1 [] (Nat.le_refl _) (by simp))
              clear hr hb1)
 have HB2:=hide (HB1.out.alloc HB1.out.size (.cells #[] 3))
 go_loopw [8,9] (fun v i wr=>U3 l st w1 v i wr) (fun _ i _=>l.length - (intOf i).toNat)
 case atStart=>exact⟨0,Nat.zero_le _,rfl,HO.out,(Below.refl _ _).alloc (Nat.le_refl _) _⟩
 case round =>
  clear HO
  obtain⟨k,hk,rfl,hM,hbr⟩:=hrel
  by_cases hlt:k<l.length
  · obtain ⟨b,off,hA,hb,x0,x1⟩:=((HR.out.below hbr).more hbr.size).at_ hlt
    subst hA
    obtain⟨x,hx⟩:∃ x,x=l[k]:=⟨_,rfl⟩
    have hfx:((l.take (k+1)).filter fun u=>decide (u.2=st)).map (·.1)=((l.take k).filter fun u=>decide (u.2=st)).map (·.1)++if x.2=st then [x.1] else []:=by
     rw[List.take_succ_eq_append_getElem hlt,List.filter_append,hx,List.map_append]
     by_cases e:l[k].2=st <;> simp[e]
    obtain⟨q,hq⟩:∃ q,q=((l.take k).filter fun u=>decide (u.2=st)).map (·.1):=⟨_,rfl⟩
    have hql:q.length≤1000:=by
     rw[hq];have:=List.length_filter_le (fun u:AO=>decide (u.2=st)) (l.take k);simp at this ⊢;omega
    rw[← hx] at x0 x1
    rw[← hq] at hM hfx
    have HFX:=hide hfx
    have hbw:=hide hbr
    clear hfx hx hq
    have hB:∀ b:Bool,b=false∨b=true:=fun b=>by cases b <;> simp
    rcases hB (x.2 == st) with hpx|hpx
    · have HFY:=hide (show(if x.2=st then [x.1] else [])=[] by simp at hpx;simp[hpx])
      go_wp2_with fail
      go_roundw
      case rel=>exact⟨k+1,by omega,by go_num,hide (by rw[HFX.out,HFY.out];simpa using hM.out),hbw.out⟩
      case measure=>simp[intOf];omega
    · have HFY:=hide (show(if x.2=st then [x.1] else [])=[x.1] by simp at hpx;simp[hpx])
      have HO2:=hide (hM.out.alloc (.cells #[.int .i64 x.1] 3))
      have HR2:=hide (Ints.newRow2 wr 3 [x.1] rfl)
      have HZ:=hide (show w1.heap.size≤(wr.alloc (.cells #[.int .i64 x.1] 3)).heap.size by have:=hbw.out.size;simp;omega)
      go_wp2_with (at_builtin;refine FN rfl _ _ rfl w1.heap.size _ q rfl HO2.out (wr.heap.size+1) (some ⟨wr.heap.size,0,none⟩) _ [x.1] rfl HR2.out (by simp;omega) HZ.out ?_;intro v3 w3 ho3 hg3 _;have ho3:=hide ho3;have hg3:=hide hg3)
      have hb3:Below w1.heap.size w1 w3:=(hbw.out.alloc hbw.out.size (.cells #[.int .i64 x.1] 3)).grown hg3.out (by have:=hbw.out.size;simp;omega) (fun g hg=>(HO2.out.lt g hg).1)
      go_roundw
      case rel=>exact⟨k+1,by omega,by go_num,hide (by rw[HFX.out,HFY.out];simpa using ho3.out),hb3⟩
      case measure=>simp[intOf];omega
  · obtain rfl:k=l.length:=by omega
    have hM2:=hM.out
    rw[List.take_length,← HMP.out] at hM2
    have HM:=hide hM2
    clear hM hM2
    go_wp2_with fail
    go_ret
    exact⟨_,rfl,Fx HM.out HB1.out.size,HB1.out.trans (hbr.mono HB1.out.size)⟩
theorem KF {α β:Type} {f g:α→List β}:∀ {l:List α},(∀ x∈l,f x=g x)→l.flatMap f=l.flatMap g
 | [],_=>rfl
 | x :: l,h=>by
   rw[List.flatMap_cons,List.flatMap_cons,h x (by simp),KF fun y hy=>h y (by simp[hy])]
theorem Jq {β:Type} (g:AO→List β):∀ (n s:Nat) (l:List AO),l.Pairwise (fun a b=>a.1<b.1)→(∀ u∈l,(s:Int)<u.1∧u.1≤(s:Int)+n) →
    (List.range' s n).flatMap (fun k:Nat=>match l.find? (fun u=>decide (u.1=(k:Int)+1)) with|some u=>g u|none=>[])=l.flatMap g
 | 0,s,l,_,hr=>by
   match l,hr with
   | [],_=>rfl
   | u :: l,hr=>have:=hr u (by simp);omega
 | n + 1,s,l,hp,hr=>by
   rw[List.range'_succ,List.flatMap_cons]
   match l,hp,hr with
   | [],_,_=>simp
   | u :: t,hp,hr =>
     have hu:=hr u (by simp)
     obtain⟨h1,h2⟩:=List.pairwise_cons.1 hp
     by_cases e:u.1=(s:Int)+1
     · rw[List.find?_cons_of_pos (by simpa using e)]
       rw[List.flatMap_cons,← Jq g n (s+1) t h2 (fun v hv=>by have:=h1 v hv;have:=hr v (by simp[hv]);omega)]
       congr 1
       refine KF fun k hk=>?_
       have hk2:=List.mem_range'_1.1 hk
       rw[List.find?_cons_of_neg (by simp;omega)]
     · have hno:(u :: t).find? (fun u=>decide (u.1=(s:Int)+1))=none:=by
         rw[List.find?_eq_none]
         intro v hv
         rcases List.mem_cons.1 hv with rfl|hv
         · simpa using e
         · have:=h1 v hv;simp;omega
       rw[hno]
       show []++_=_
       rw[List.nil_append]
       exact Jq g n (s+1) (u :: t) hp (fun v hv=>by
        have:=hr v hv
        rcases List.mem_cons.1 hv with rfl|hv
        · omega
        · have:=h1 v hv;omega)
def Dv(m:AC)(i:Nat)(u:AO):List (Int×Int):=if BN m 4 u.1=m.dT then [((i:Int)+1,if u.2=2 then 2 else 0)] else []
def Hl(m:AC)(p:AA)(i:Nat):List (Int×Int):=(AQ p ((i:Int)+1)).flatMap (Dv m i)
def Cv(m:AC)(p:AA)(i:Nat):List (Int×Int):=(List.range i).flatMap (Hl m p)
def EH(m:AC)(l:List EvM):List (Int×Int):=if BV l<0 then [] else Cv m (AX m l (BV l).toNat) m.iT.length
theorem Gy(m:AC)(p:AA)(i:Nat):Cv m p (i+1)=Cv m p i++Hl m p i:=by simp[Cv,List.range_succ]
def MF(l:List AO)(k:Nat):Option AO:=l.find? (fun u=>decide (u.1=(k:Int)+1))
def Eo(m:AC)(p:AA)(i k:Nat):List (Int×Int):=match MF (AQ p ((i:Int)+1)) k with|some u=>Dv m i u|none=>[]
def Er(m:AC)(p:AA)(i k:Nat):List (Int×Int):=Cv m p i++(List.range k).flatMap (Eo m p i)
theorem O9(m:AC)(p:AA)(i k:Nat):Er m p i (k+1)=Er m p i k++Eo m p i k:=by simp[Er,List.range_succ]
theorem PD(m:AC)(p:AA)(i:Nat):Er m p i 0=Cv m p i:=by simp[Er]
theorem QY {m:AC} {p:AA} (h:CR m.mT.length p) (i:Nat):Er m p i m.mT.length=Cv m p (i+1):=by
 rw[Er,Gy,Hl,List.range_eq_range']
 have hs:=h.units ((i:Int)+1)
 have:=Jq (Dv m i) m.mT.length 0 _ hs.1 (fun u hu=>by have:=hs.2 u hu;omega)
 rw[← this]
 rfl
theorem Ih(m:AC)(i:Nat)(u:AO):(Dv m i u).length≤1:=by unfold Dv;split <;> simp
theorem Jn {α β:Type} {f:α→List β} (h:∀ x,(f x).length≤1) (l:List α):(l.flatMap f).length≤l.length:=by
 induction l with
 | nil=>simp
 | cons x l ih=>rw[List.flatMap_cons,List.length_append,List.length_cons];have:=h x;omega
theorem Fu {m:AC} {p:AA} {n:Nat} (h:Room n p):∀ i,(Cv m p i).length≤i*n
 | 0=>by simp[Cv]
 | i+1=>by
   rw[Gy,List.length_append,Nat.succ_mul]
   have:=Fu (m:=m) h i
   have:=Jn (Ih m i) (AQ p ((i:Int)+1))
   have:=h.unitsP ((i:Int)+1)
   unfold Hl
   omega
theorem QZ {m:AC} {p:AA} {n:Nat} (h:Room n p) (i k:Nat):(Er m p i k).length≤i*n+k:=by
 rw[Er,List.length_append]
 have:=Fu (m:=m) h i
 have h2:=Jn (f:=Eo m p i) (fun x=>by unfold Eo;split;exact Ih _ _ _;simp) (List.range k)
 rw[List.length_range] at h2
 omega
end Go.Proofs.YtfemlajeomohhaaGreatDoor
