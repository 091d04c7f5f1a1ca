/- A part of the claim: see its last text. -/
import Derived.Test.YtfemlajeomohhaaGreatDoorUK32

set_option maxRecDepth 100000
set_option maxHeartbeats 16000000
namespace Go.Proofs.YtfemlajeomohhaaGreatDoor
open Go Go.RowKit Go.Proofs
theorem K7 (h:MH) (m:AC) (x:EvM) (j:EvJ) (A:Option Addr) (c:Nat) (q:AA) (w:World) (hm:m.mT.length≤100) (ho:x.old.length≤100) (hI:Ints w w.heap.size j.A x.old) (hp:PT w (.slice A q.length c) q) (hr:Room 800 q) (hk:x.kind=2) (hg1 : -9223372036854775808<x.group) (hg2:x.group≤9223372036854775807) :
    Calls Tryz.prog 83 #[.agg #[.slice h.s m.sT.length h.sc,.slice h.f m.fT.length h.fc,.slice h.r m.rT.length h.rc,.slice h.m m.mT.length h.mc,.slice h.l m.lT.length h.lc,.slice h.i m.iT.length h.ic,.int .i64 m.dT,.int .i64 m.oT,.int .i64 m.vT,.int .i64 m.aT,.slice h.u m.uT.length h.uc],.agg #[.slice A q.length c],.agg #[.int .i64 x.kind,.int .i64 x.mach,.int .i64 j.v2,.int .i64 j.v3,.int .i64 x.group,.int .i64 j.v5,.string j.v6,.int .i64 j.v7,.int .i64 j.v8,.int .i64 j.v9,.bool j.v10,.int .i64 j.v11,.slice j.A x.old.length j.c,.slice j.A13 j.n13 j.c13,.slice j.A14 j.n14 j.c14,.int .i64 x.hitem,.int .i64 j.v16,.int .i64 x.hstate,.int .i64 j.v18,.int .i64 j.v19,.bool x.gone,.int .i64 x.outcome]] w (BG w (x.old.foldl (BH m x.group) (CY q x.group m.mT.length))):=by
 have H0:=hide (Di.start h m x j A c q w hp)
 have g2:(x.kind == 2)=true:=by simpa using hk
 have HR:=hide hr
 have HI:=hide hI
 have HG:=hide (And.intro hg1 hg2)
 clear hk hr hI hp hg1 hg2
 have H0c:=EB.cells H0.out.be
 have hlt:=H0.out.lts
 obtain⟨e0,e1,e4,e12,e15,e16,e17,e18,e19,e20,e21⟩:=H0c
 go_enter Tryz.func83,Tryz.ntmps83
 go_wp2_with fail
 go_loopw [7] (fun i wr=>∃ k:Nat,k≤m.mT.length∧i=.int .i64 ((k:Int)+1)∧Hid (Di w h m x j wr (CY q x.group k))) (fun i _=>m.mT.length+1 - (intOf i).toNat)
 case atStart=>exact⟨0,Nat.zero_le _,rfl,H0⟩
 case round =>
  clear H0 hlt e0 e1 e4 e12 e15 e16 e17 e18 e19 e20 e21
  obtain⟨k,hk,rfl,hS⟩:=hrel
  obtain⟨A1,c1,hB1,hP1⟩:=hS.out.bp
  obtain⟨e0,e1,e4,e12,e15,e16,e17,e18,e19,e20,e21⟩:=EB.cells hS.out.be
  obtain⟨a0,a1,a2,a3,a4,a5,a6,a7,a8,a9,a10⟩:=MB.cells hS.out.bm
  have x0:=hB1.cell 0
  have xl:=hS.out.lts
  have xl0:=hS.out.bm.lt
  simp at x0
  by_cases hlt:k<m.mT.length
  · have HC:=hide (Jm A1 c1 _ x.group ((k:Int)+1) wr hP1 ((HR.out.dropAll1 x.group k).short (by omega)))
    have HX:=hide hB1
    clear hB1 hP1
    have hle:(k:Int)+1≤(m.mT.length:Int):=by omega
    go_wp2_with (go_at_call 130;refine HC.out.mono ?_;rintro e w1 ⟨A2,c2,rfl,hp2,hb2⟩;have hN:=hide (hS.out.next hb2 hp2);have hx1:=HX.out.below hb2 HX.out.lt;have y0:=hx1.cell 0;have yf:=hx1.frozen 0;have yl:=hx1.lt;simp at y0;clear hx1 hb2 hp2)
    go_roundw
    case rel=>exact⟨k+1,by omega,by simp,by rw[← Et];exact hN⟩
    case measure=>simp[intOf];omega
  · obtain rfl:k=m.mT.length:=by omega
    have hle:¬ (m.mT.length:Int)+1≤(m.mT.length:Int):=by omega
    go_wp2_with fail
    obtain⟨q1,hq1⟩:∃ q1,q1=CY q x.group m.mT.length:=⟨_,rfl⟩
    have hR1:Room 800 q1:=by rw[hq1];exact HR.out.dropAll1 _ _
    have HR1:=hide hR1
    have HQ1:=hide hq1
    rw[← hq1] at hS ⊢
    clear hR1 hq1 hB1 hP1 x0 xl e0 e1 e4 e12 e15 e16 e17 e18 e19 e20 e21 a0 a1 a2 a3 a4 a5 a6 a7 a8 a9 a10 hlt hk HR hle
    go_loopw [8] (fun i wr=>∃ k:Nat,k≤x.old.length∧i=.int .i64 k∧Hid (Di w h m x j wr ((x.old.take k).foldl (BH m x.group) q1))) (fun i _=>x.old.length - (intOf i).toNat)
    case atStart=>exact⟨0,Nat.zero_le _,rfl,hS⟩
    case round =>
     clear hS
     obtain⟨k,hk,rfl,hS⟩:=hrel
     obtain⟨A1,c1,hB1,hP1⟩:=hS.out.bp
     obtain⟨e0,e1,e4,e12,e15,e16,e17,e18,e19,e20,e21⟩:=EB.cells hS.out.be
     obtain⟨a0,a1,a2,a3,a4,a5,a6,a7,a8,a9,a10⟩:=MB.cells hS.out.bm
     have x0:=hB1.cell 0
     have xl:=hS.out.lts
     have xl0:=hS.out.bm.lt
     have xl2:=hS.out.be.lt
     simp at x0
     obtain⟨q2,hq2⟩:∃ q2,q2=(x.old.take k).foldl (BH m x.group) q1:=⟨_,rfl⟩
     rw[← hq2] at hS hB1 hP1 x0
     have hR2:Room 950 q2:=by rw[hq2];exact(Room.putOlds m x.group _ HR1.out).mono (by simp;omega)
     have HR2:=hide hR2
     clear hR2
     by_cases hlt:k<x.old.length
     · obtain ⟨b,off,hA,hb,z0⟩:=Dy ((HI.out.below hS.out.b).more hS.out.b.size) hlt
       have HQ:=hide (show BH m x.group q2 x.old[k]=(x.old.take (k+1)).foldl (BH m x.group) q1 by
        rw[List.take_succ_eq_append_getElem hlt,List.foldl_append,← hq2];rfl)
       have hmod:IntKind.i64.wrap (x.old[k].tmod 100)=x.old[k].tmod 100:=IntWalk.i64_in _ (by have:=Int.lt_tmod_of_pos x.old[k] (show(0:Int)<100 by decide);have:=Int.tmod_lt_of_pos x.old[k] (show(0:Int)<100 by decide);omega)
       have HX:=hide hB1
       have HP1:=hide hP1
       clear hB1 hP1 hq2
       rw[hA]
       by_cases h1:1≤x.old[k].tmod 100
       · by_cases h2:x.old[k].tmod 100≤(m.mT.length:Int)
         · have hex:=hide (show AP (x.old[k].tmod 100) m.mT.length=true by simp[AP];omega)
           have HC:=hide (JL A1 c1 q2 x.group (x.old[k].tmod 100) 0 wr HP1.out (HR2.out.short (by omega)) HG.out.1 HG.out.2)
           go_wp2_with (go_at_call 131;refine HC.out.mono ?_;rintro e w2 ⟨A2,c2,rfl,hp2,hb2⟩;have hN:=hide (hS.out.next hb2 hp2);have hx1:=HX.out.below hb2 HX.out.lt;have y0:=hx1.cell 0;have yf:=hx1.frozen 0;have yl:=hx1.lt;simp at y0;clear hx1 hb2 hp2)
           have hq:BH m x.group q2 x.old[k]=Cn q2 x.group (x.old[k].tmod 100) 0:=by simp[BH,hex.out]
           go_roundw
           case rel=>exact⟨k+1,by omega,by go_num,by rw[← HQ.out,hq];exact hN⟩
           case measure=>simp[intOf];omega
         · have hex:=hide (show AP (x.old[k].tmod 100) m.mT.length=false by simp[AP];omega)
           go_wp2_with fail
           have hq:BH m x.group q2 x.old[k]=q2:=by simp[BH,hex.out]
           go_roundw
           case rel=>exact⟨k+1,by omega,by go_num,by rw[← HQ.out,hq];exact hS⟩
           case measure=>simp[intOf];omega
       · have hex:=hide (show AP (x.old[k].tmod 100) m.mT.length=false by simp[AP];omega)
         go_wp2_with fail
         have hq:BH m x.group q2 x.old[k]=q2:=by simp[BH,hex.out]
         go_roundw
         case rel=>exact⟨k+1,by omega,by go_num,by rw[← HQ.out,hq];exact hS⟩
         case measure=>simp[intOf];omega
     · obtain rfl:k=x.old.length:=by omega
       rw[List.take_length] at hq2
       have HB:=hide hB1
       have HP:=hide hP1
       have rl:=hS.out.br.cell 0
       have rf:=hS.out.br.frozen 0
       simp at rl
       clear hB1 hP1
       go_wp2_with fail
       refine bodyPost_ret (v:=.agg #[.slice A1 q2.length c1]) (by simp[results,Tryz.results83,go_sem, *]) rfl ?_
       rw[← HQ1.out,← hq2]
       exact hS.out.done HP.out
theorem NF {m:AC} {q:AA} {x:EvM} {a:Nat} (ha:a<m.iT.length) (hi:x.hitem=(a:Int)+1) (hk:x.kind≠2) (hg:x.gone=true):Ac m q x=Cf q x.hitem x.mach:=by
 have hki:Ai m x.hitem=m.iT[a].kind:=by rw[hi];exact CG ha
 unfold Ac
 rw[if_neg hk]
 simp[hg]
theorem Jf (h:MH) (m:AC) (x:EvM) (j:EvJ) (A:Option Addr) (c:Nat) (q:AA) (w:World) (d:MD w w.heap.size h m) (hp:PT w (.slice A q.length c) q) (hr:Room 900 q) (hil:m.iT.length≤100) (hk:x.kind≠2) (a:Nat) (ha:a<m.iT.length) (hi:x.hitem=(a:Int)+1) (hg:x.gone=true) :
    Calls Tryz.prog 83 #[.agg #[.slice h.s m.sT.length h.sc,.slice h.f m.fT.length h.fc,.slice h.r m.rT.length h.rc,.slice h.m m.mT.length h.mc,.slice h.l m.lT.length h.lc,.slice h.i m.iT.length h.ic,.int .i64 m.dT,.int .i64 m.oT,.int .i64 m.vT,.int .i64 m.aT,.slice h.u m.uT.length h.uc],.agg #[.slice A q.length c],.agg #[.int .i64 x.kind,.int .i64 x.mach,.int .i64 j.v2,.int .i64 j.v3,.int .i64 x.group,.int .i64 j.v5,.string j.v6,.int .i64 j.v7,.int .i64 j.v8,.int .i64 j.v9,.bool j.v10,.int .i64 j.v11,.slice j.A x.old.length j.c,.slice j.A13 j.n13 j.c13,.slice j.A14 j.n14 j.c14,.int .i64 x.hitem,.int .i64 j.v16,.int .i64 x.hstate,.int .i64 j.v18,.int .i64 j.v19,.bool x.gone,.int .i64 x.outcome]] w (BG w (Ac m q x)):=by
 have H0:=hide (Di.start h m x j A c q w hp)
 have HV:=hide (NF (m:=m) (q:=q) ha hi hk hg)
 rw[hg] at H0
 have g2:(x.kind == 2)=false:=by simpa using hk
 have HR:=hide (hr.short (by omega))
 obtain⟨b,off,A2,c2,hA,hb,x0,x1,x2,x3,x4,x5,x6,hz,hlc,hcm,hI⟩:=(d.grow H0.out.b).dI.item ha
 have HI2:=hide hi
 have HP:=hide ((hp.below H0.out.b))
 have HIT:=hide (show -9223372036854775808<x.hitem∧x.hitem≤9223372036854775807 by omega)
 have hw:(a:Int)<(m.iT.length:Int):=by omega
 clear hk hr d hp hI hz hlc hcm hi
 obtain⟨e0,e1,e4,e12,e15,e16,e17,e18,e19,e20,e21⟩:=EB.cells H0.out.be
 rw[HI2.out] at e15
 have hlt:=H0.out.lts
 have HC:=hide (Jm A c q x.hitem x.mach _ HP.out HR.out)
 rw[HV.out]
 rw[HI2.out] at HC H0 HP x0 x1 x2 x3 x4 x5 x6 ⊢
 rw[hA] at H0 HP x0 x1 x2 x3 x4 x5 x6 HC ⊢
 go_enter Tryz.func83,Tryz.ntmps83
 go_wp2_with (
     (go_at_call 130;refine HC.out.mono ?_;rintro e w2 ⟨A2,c2,rfl,hp2,hb2⟩
      have HP2:=hide hp2
      have HS2:=hide (H0.out.grow hb2)
      have s0:=HS2.out.br.cell 0
      have sf:=HS2.out.br.frozen 0
      have slt:=HS2.out.lts
      simp at s0
      clear hb2 hp2))
 refine bodyPost_ret (v:=.agg #[.slice A2 (Cf q ((a:Int)+1) x.mach).length c2]) (by simp[results,Tryz.results83,go_sem, *]) rfl ?_
 exact⟨A2,c2,rfl,HP2.out.keep (KT.set_ HS2.out.br (by decide) 0 _) (KT.set_ HS2.out.br (by decide) 0 _),HS2.out.b.setCell (by simp <;> omega) _⟩
theorem NG {m:AC} {q:AA} {x:EvM} {a:Nat} (ha:a<m.iT.length) (hi:x.hitem=(a:Int)+1) (hk:x.kind≠2) (hg:x.gone=false) (hp1:(m.iT[a].kind == 1)=true) (hs:(x.hstate != 0)=true):Ac m q x=Cf q x.hitem x.mach:=by
 have hki:Ai m x.hitem=m.iT[a].kind:=by rw[hi];exact CG ha
 unfold Ac
 rw[if_neg hk]
 simp at hp1 hs;simp[hg,hki,hp1,hs]
theorem OV (h:MH) (m:AC) (x:EvM) (j:EvJ) (A:Option Addr) (c:Nat) (q:AA) (w:World) (d:MD w w.heap.size h m) (hp:PT w (.slice A q.length c) q) (hr:Room 900 q) (hil:m.iT.length≤100) (hk:x.kind≠2) (a:Nat) (ha:a<m.iT.length) (hi:x.hitem=(a:Int)+1) (hg:x.gone=false) (hp1:(m.iT[a].kind == 1)=true) (hs:(x.hstate != 0)=true) :
    Calls Tryz.prog 83 #[.agg #[.slice h.s m.sT.length h.sc,.slice h.f m.fT.length h.fc,.slice h.r m.rT.length h.rc,.slice h.m m.mT.length h.mc,.slice h.l m.lT.length h.lc,.slice h.i m.iT.length h.ic,.int .i64 m.dT,.int .i64 m.oT,.int .i64 m.vT,.int .i64 m.aT,.slice h.u m.uT.length h.uc],.agg #[.slice A q.length c],.agg #[.int .i64 x.kind,.int .i64 x.mach,.int .i64 j.v2,.int .i64 j.v3,.int .i64 x.group,.int .i64 j.v5,.string j.v6,.int .i64 j.v7,.int .i64 j.v8,.int .i64 j.v9,.bool j.v10,.int .i64 j.v11,.slice j.A x.old.length j.c,.slice j.A13 j.n13 j.c13,.slice j.A14 j.n14 j.c14,.int .i64 x.hitem,.int .i64 j.v16,.int .i64 x.hstate,.int .i64 j.v18,.int .i64 j.v19,.bool x.gone,.int .i64 x.outcome]] w (BG w (Ac m q x)):=by
 have H0:=hide (Di.start h m x j A c q w hp)
 have HV:=hide (NG (m:=m) (q:=q) ha hi hk hg hp1 hs)
 rw[hg] at H0
 have g2:(x.kind == 2)=false:=by simpa using hk
 have HR:=hide (hr.short (by omega))
 obtain⟨b,off,A2,c2,hA,hb,x0,x1,x2,x3,x4,x5,x6,hz,hlc,hcm,hI⟩:=(d.grow H0.out.b).dI.item ha
 have HI2:=hide hi
 have HP:=hide ((hp.below H0.out.b))
 have HIT:=hide (show -9223372036854775808<x.hitem∧x.hitem≤9223372036854775807 by omega)
 have hw:(a:Int)<(m.iT.length:Int):=by omega
 clear hk hr d hp hI hz hlc hcm hi
 obtain⟨e0,e1,e4,e12,e15,e16,e17,e18,e19,e20,e21⟩:=EB.cells H0.out.be
 rw[HI2.out] at e15
 have hlt:=H0.out.lts
 have HC:=hide (Jm A c q x.hitem x.mach _ HP.out HR.out)
 rw[HV.out]
 rw[HI2.out] at HC H0 HP x0 x1 x2 x3 x4 x5 x6 ⊢
 rw[hA] at H0 HP x0 x1 x2 x3 x4 x5 x6 HC ⊢
 go_enter Tryz.func83,Tryz.ntmps83
 go_wp2_with (
     (go_at_call 130;refine HC.out.mono ?_;rintro e w2 ⟨A2,c2,rfl,hp2,hb2⟩
      have HP2:=hide hp2
      have HS2:=hide (H0.out.grow hb2)
      have s0:=HS2.out.br.cell 0
      have sf:=HS2.out.br.frozen 0
      have slt:=HS2.out.lts
      simp at s0
      clear hb2 hp2))
 refine bodyPost_ret (v:=.agg #[.slice A2 (Cf q ((a:Int)+1) x.mach).length c2]) (by simp[results,Tryz.results83,go_sem, *]) rfl ?_
 exact⟨A2,c2,rfl,HP2.out.keep (KT.set_ HS2.out.br (by decide) 0 _) (KT.set_ HS2.out.br (by decide) 0 _),HS2.out.b.setCell (by simp <;> omega) _⟩
theorem OU {m:AC} {q:AA} {x:EvM} {a:Nat} (ha:a<m.iT.length) (hi:x.hitem=(a:Int)+1) (hk:x.kind≠2) (hg:x.gone=false) (hp1:(m.iT[a].kind == 1)=true) (_hp2:(m.iT[a].kind == 2)=false) (hs:(x.hstate != 0)=false):Ac m q x=Cn q x.hitem x.mach 0:=by
 have hki:Ai m x.hitem=m.iT[a].kind:=by rw[hi];exact CG ha
 unfold Ac
 rw[if_neg hk]
 simp at hp1 hs;simp[hg,hki,hp1,hs]
theorem Pm (h:MH) (m:AC) (x:EvM) (j:EvJ) (A:Option Addr) (c:Nat) (q:AA) (w:World) (d:MD w w.heap.size h m) (hp:PT w (.slice A q.length c) q) (hr:Room 900 q) (hil:m.iT.length≤100) (hk:x.kind≠2) (a:Nat) (ha:a<m.iT.length) (hi:x.hitem=(a:Int)+1) (hg:x.gone=false) (hp1:(m.iT[a].kind == 1)=true) (hp2:(m.iT[a].kind == 2)=false) (hs:(x.hstate != 0)=false) :
    Calls Tryz.prog 83 #[.agg #[.slice h.s m.sT.length h.sc,.slice h.f m.fT.length h.fc,.slice h.r m.rT.length h.rc,.slice h.m m.mT.length h.mc,.slice h.l m.lT.length h.lc,.slice h.i m.iT.length h.ic,.int .i64 m.dT,.int .i64 m.oT,.int .i64 m.vT,.int .i64 m.aT,.slice h.u m.uT.length h.uc],.agg #[.slice A q.length c],.agg #[.int .i64 x.kind,.int .i64 x.mach,.int .i64 j.v2,.int .i64 j.v3,.int .i64 x.group,.int .i64 j.v5,.string j.v6,.int .i64 j.v7,.int .i64 j.v8,.int .i64 j.v9,.bool j.v10,.int .i64 j.v11,.slice j.A x.old.length j.c,.slice j.A13 j.n13 j.c13,.slice j.A14 j.n14 j.c14,.int .i64 x.hitem,.int .i64 j.v16,.int .i64 x.hstate,.int .i64 j.v18,.int .i64 j.v19,.bool x.gone,.int .i64 x.outcome]] w (BG w (Ac m q x)):=by
 have H0:=hide (Di.start h m x j A c q w hp)
 have HV:=hide (OU (m:=m) (q:=q) ha hi hk hg hp1 hp2 hs)
 rw[hg] at H0
 have g2:(x.kind == 2)=false:=by simpa using hk
 have HR:=hide (hr.short (by omega))
 obtain⟨b,off,A2,c2,hA,hb,x0,x1,x2,x3,x4,x5,x6,hz,hlc,hcm,hI⟩:=(d.grow H0.out.b).dI.item ha
 have HI2:=hide hi
 have HP:=hide ((hp.below H0.out.b))
 have HIT:=hide (show -9223372036854775808<x.hitem∧x.hitem≤9223372036854775807 by omega)
 have hw:(a:Int)<(m.iT.length:Int):=by omega
 clear hk hr d hp hI hz hlc hcm hi
 obtain⟨e0,e1,e4,e12,e15,e16,e17,e18,e19,e20,e21⟩:=EB.cells H0.out.be
 rw[HI2.out] at e15
 have hlt:=H0.out.lts
 have HC:=hide (JL A c q x.hitem x.mach 0 _ HP.out HR.out HIT.out.1 HIT.out.2)
 rw[HV.out]
 rw[HI2.out] at HC H0 HP x0 x1 x2 x3 x4 x5 x6 ⊢
 rw[hA] at H0 HP x0 x1 x2 x3 x4 x5 x6 HC ⊢
 go_enter Tryz.func83,Tryz.ntmps83
 go_wp2_with (
     (go_at_call 131;refine HC.out.mono ?_;rintro e w2 ⟨A2,c2,rfl,hp2,hb2⟩
      have HP2:=hide hp2
      have HS2:=hide (H0.out.grow hb2)
      have s0:=HS2.out.br.cell 0
      have sf:=HS2.out.br.frozen 0
      have slt:=HS2.out.lts
      simp at s0
      clear hb2 hp2))
 refine bodyPost_ret (v:=.agg #[.slice A2 (Cn q ((a:Int)+1) x.mach 0).length c2]) (by simp[results,Tryz.results83,go_sem, *]) rfl ?_
 exact⟨A2,c2,rfl,HP2.out.keep (KT.set_ HS2.out.br (by decide) 0 _) (KT.set_ HS2.out.br (by decide) 0 _),HS2.out.b.setCell (by simp <;> omega) _⟩
theorem K6 {m:AC} {q:AA} {x:EvM} {a:Nat} (ha:a<m.iT.length) (hi:x.hitem=(a:Int)+1) (hk:x.kind≠2) (hg:x.gone=false) (hp1:(m.iT[a].kind == 1)=false) (_hp2:(m.iT[a].kind == 2)=true) (hs:(x.hstate == 2)=true):Ac m q x=Cn q x.hitem x.mach 2:=by
 have hki:Ai m x.hitem=m.iT[a].kind:=by rw[hi];exact CG ha
 unfold Ac
 rw[if_neg hk]
 simp at hp1 hs;simp[hg,hki,hp1,hs]
theorem Lx (h:MH) (m:AC) (x:EvM) (j:EvJ) (A:Option Addr) (c:Nat) (q:AA) (w:World) (d:MD w w.heap.size h m) (hp:PT w (.slice A q.length c) q) (hr:Room 900 q) (hil:m.iT.length≤100) (hk:x.kind≠2) (a:Nat) (ha:a<m.iT.length) (hi:x.hitem=(a:Int)+1) (hg:x.gone=false) (hp1:(m.iT[a].kind == 1)=false) (hp2:(m.iT[a].kind == 2)=true) (hs:(x.hstate == 2)=true) :
    Calls Tryz.prog 83 #[.agg #[.slice h.s m.sT.length h.sc,.slice h.f m.fT.length h.fc,.slice h.r m.rT.length h.rc,.slice h.m m.mT.length h.mc,.slice h.l m.lT.length h.lc,.slice h.i m.iT.length h.ic,.int .i64 m.dT,.int .i64 m.oT,.int .i64 m.vT,.int .i64 m.aT,.slice h.u m.uT.length h.uc],.agg #[.slice A q.length c],.agg #[.int .i64 x.kind,.int .i64 x.mach,.int .i64 j.v2,.int .i64 j.v3,.int .i64 x.group,.int .i64 j.v5,.string j.v6,.int .i64 j.v7,.int .i64 j.v8,.int .i64 j.v9,.bool j.v10,.int .i64 j.v11,.slice j.A x.old.length j.c,.slice j.A13 j.n13 j.c13,.slice j.A14 j.n14 j.c14,.int .i64 x.hitem,.int .i64 j.v16,.int .i64 x.hstate,.int .i64 j.v18,.int .i64 j.v19,.bool x.gone,.int .i64 x.outcome]] w (BG w (Ac m q x)):=by
 have H0:=hide (Di.start h m x j A c q w hp)
 have HV:=hide (K6 (m:=m) (q:=q) ha hi hk hg hp1 hp2 hs)
 rw[hg] at H0
 have g2:(x.kind == 2)=false:=by simpa using hk
 have HR:=hide (hr.short (by omega))
 obtain⟨b,off,A2,c2,hA,hb,x0,x1,x2,x3,x4,x5,x6,hz,hlc,hcm,hI⟩:=(d.grow H0.out.b).dI.item ha
 have HI2:=hide hi
 have HP:=hide ((hp.below H0.out.b))
 have HIT:=hide (show -9223372036854775808<x.hitem∧x.hitem≤9223372036854775807 by omega)
 have hw:(a:Int)<(m.iT.length:Int):=by omega
 clear hk hr d hp hI hz hlc hcm hi
 obtain⟨e0,e1,e4,e12,e15,e16,e17,e18,e19,e20,e21⟩:=EB.cells H0.out.be
 rw[HI2.out] at e15
 have hlt:=H0.out.lts
 have HC:=hide (JL A c q x.hitem x.mach 2 _ HP.out HR.out HIT.out.1 HIT.out.2)
 rw[HV.out]
 rw[HI2.out] at HC H0 HP x0 x1 x2 x3 x4 x5 x6 ⊢
 rw[hA] at H0 HP x0 x1 x2 x3 x4 x5 x6 HC ⊢
 go_enter Tryz.func83,Tryz.ntmps83
 go_wp2_with (
     (go_at_call 131;refine HC.out.mono ?_;rintro e w2 ⟨A2,c2,rfl,hp2,hb2⟩
      have HP2:=hide hp2
      have HS2:=hide (H0.out.grow hb2)
      have s0:=HS2.out.br.cell 0
      have sf:=HS2.out.br.frozen 0
      have slt:=HS2.out.lts
      simp at s0
      clear hb2 hp2))
 refine bodyPost_ret (v:=.agg #[.slice A2 (Cn q ((a:Int)+1) x.mach 2).length c2]) (by simp[results,Tryz.results83,go_sem, *]) rfl ?_
 exact⟨A2,c2,rfl,HP2.out.keep (KT.set_ HS2.out.br (by decide) 0 _) (KT.set_ HS2.out.br (by decide) 0 _),HS2.out.b.setCell (by simp <;> omega) _⟩
theorem OT {m:AC} {q:AA} {x:EvM} {a:Nat} (ha:a<m.iT.length) (hi:x.hitem=(a:Int)+1) (hk:x.kind≠2) (hg:x.gone=false) (hp1:(m.iT[a].kind == 1)=false) (_hp2:(m.iT[a].kind == 2)=true) (hs:(x.hstate == 2)=false):Ac m q x=Cn q x.hitem x.mach 0:=by
 have hki:Ai m x.hitem=m.iT[a].kind:=by rw[hi];exact CG ha
 unfold Ac
 rw[if_neg hk]
 simp at hp1 hs;simp[hg,hki,hp1,hs]
theorem Pk (h:MH) (m:AC) (x:EvM) (j:EvJ) (A:Option Addr) (c:Nat) (q:AA) (w:World) (d:MD w w.heap.size h m) (hp:PT w (.slice A q.length c) q) (hr:Room 900 q) (hil:m.iT.length≤100) (hk:x.kind≠2) (a:Nat) (ha:a<m.iT.length) (hi:x.hitem=(a:Int)+1) (hg:x.gone=false) (hp1:(m.iT[a].kind == 1)=false) (hp2:(m.iT[a].kind == 2)=true) (hs:(x.hstate == 2)=false) :
    Calls Tryz.prog 83 #[.agg #[.slice h.s m.sT.length h.sc,.slice h.f m.fT.length h.fc,.slice h.r m.rT.length h.rc,.slice h.m m.mT.length h.mc,.slice h.l m.lT.length h.lc,.slice h.i m.iT.length h.ic,.int .i64 m.dT,.int .i64 m.oT,.int .i64 m.vT,.int .i64 m.aT,.slice h.u m.uT.length h.uc],.agg #[.slice A q.length c],.agg #[.int .i64 x.kind,.int .i64 x.mach,.int .i64 j.v2,.int .i64 j.v3,.int .i64 x.group,.int .i64 j.v5,.string j.v6,.int .i64 j.v7,.int .i64 j.v8,.int .i64 j.v9,.bool j.v10,.int .i64 j.v11,.slice j.A x.old.length j.c,.slice j.A13 j.n13 j.c13,.slice j.A14 j.n14 j.c14,.int .i64 x.hitem,.int .i64 j.v16,.int .i64 x.hstate,.int .i64 j.v18,.int .i64 j.v19,.bool x.gone,.int .i64 x.outcome]] w (BG w (Ac m q x)):=by
 have H0:=hide (Di.start h m x j A c q w hp)
 have HV:=hide (OT (m:=m) (q:=q) ha hi hk hg hp1 hp2 hs)
 rw[hg] at H0
 have g2:(x.kind == 2)=false:=by simpa using hk
 have HR:=hide (hr.short (by omega))
 obtain⟨b,off,A2,c2,hA,hb,x0,x1,x2,x3,x4,x5,x6,hz,hlc,hcm,hI⟩:=(d.grow H0.out.b).dI.item ha
 have HI2:=hide hi
 have HP:=hide ((hp.below H0.out.b))
 have HIT:=hide (show -9223372036854775808<x.hitem∧x.hitem≤9223372036854775807 by omega)
 have hw:(a:Int)<(m.iT.length:Int):=by omega
 clear hk hr d hp hI hz hlc hcm hi
 obtain⟨e0,e1,e4,e12,e15,e16,e17,e18,e19,e20,e21⟩:=EB.cells H0.out.be
 rw[HI2.out] at e15
 have hlt:=H0.out.lts
 have HC:=hide (JL A c q x.hitem x.mach 0 _ HP.out HR.out HIT.out.1 HIT.out.2)
 rw[HV.out]
 rw[HI2.out] at HC H0 HP x0 x1 x2 x3 x4 x5 x6 ⊢
 rw[hA] at H0 HP x0 x1 x2 x3 x4 x5 x6 HC ⊢
 go_enter Tryz.func83,Tryz.ntmps83
 go_wp2_with (
     (go_at_call 131;refine HC.out.mono ?_;rintro e w2 ⟨A2,c2,rfl,hp2,hb2⟩
      have HP2:=hide hp2
      have HS2:=hide (H0.out.grow hb2)
      have s0:=HS2.out.br.cell 0
      have sf:=HS2.out.br.frozen 0
      have slt:=HS2.out.lts
      simp at s0
      clear hb2 hp2))
 refine bodyPost_ret (v:=.agg #[.slice A2 (Cn q ((a:Int)+1) x.mach 0).length c2]) (by simp[results,Tryz.results83,go_sem, *]) rfl ?_
 exact⟨A2,c2,rfl,HP2.out.keep (KT.set_ HS2.out.br (by decide) 0 _) (KT.set_ HS2.out.br (by decide) 0 _),HS2.out.b.setCell (by simp <;> omega) _⟩
end Go.Proofs.YtfemlajeomohhaaGreatDoor
