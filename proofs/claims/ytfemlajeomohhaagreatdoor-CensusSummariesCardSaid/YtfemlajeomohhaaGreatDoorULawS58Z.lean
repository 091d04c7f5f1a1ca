/- A part of the claim: see its last text. -/
import Derived.Test.YtfemlajeomohhaaGreatDoorUK52
import Derived.Test.YtfemlajeomohhaaGreatDoorUK51

set_option maxRecDepth 100000
set_option maxHeartbeats 16000000
namespace Go.Proofs.YtfemlajeomohhaaGreatDoor
open Go Go.RowKit Go.Proofs
theorem SV (h:MH) (m:AC) (l:List EvM) (A:Option Addr) (c:Nat) (n:Int) (w:World) (d:MD w w.heap.size h m) (hl:l.length≤9223372036854775807) (hfar:¬ l.length≤40) (ha:Asc w) (hpw:F7 w) :
    Calls Tryz.prog 3 #[.agg #[.slice h.s m.sT.length h.sc,.slice h.f m.fT.length h.fc,.slice h.r m.rT.length h.rc,.slice h.m m.mT.length h.mc,.slice h.l m.lT.length h.lc,.slice h.i m.iT.length h.ic,.int .i64 m.dT,.int .i64 m.oT,.int .i64 m.vT,.int .i64 m.aT,.slice h.u m.uT.length h.uc],.slice A l.length c,.int .i64 n] w (fun e w'=>e=.returned (.bool true)∧Below w.heap.size w w'):=by
 have hb:=(Below.refl w.heap.size w).alloc (Nat.le_refl _) (.cells #[.slice h.s m.sT.length h.sc,.slice h.f m.fT.length h.fc,.slice h.r m.rT.length h.rc,.slice h.m m.mT.length h.mc,.slice h.l m.lT.length h.lc,.slice h.i m.iT.length h.ic,.int .i64 m.dT,.int .i64 m.oT,.int .i64 m.vT,.int .i64 m.aT,.slice h.u m.uT.length h.uc] 29)
 have HB:=hide hb
 have HFW:=hide (Gc h m _ (d.grow hb))
 have HAW:=hide (fun W (hW:Below w.heap.size w W)=>Ka W (ha.below (Nat.le_refl _) hW) (hpw.below (Nat.le_refl _) hW))
 have g1:(40:Int)<(l.length:Int):=by omega
 clear hb d ha hpw hfar
 go_enter Tryz.func3,Tryz.ntmps3
 go_wp2_with (first
  | (go_at_call 4;refine HFW.out.mono ?_;rintro e w1 ⟨⟨b,rfl⟩,hb1⟩
     have HB1:=hide (HB.out.trans (hb1.mono (by simp)))
     clear hb1
     cases b)
  | (go_at_call 5;refine(HAW.out _ HB1.out).mono ?_;rintro e w2 ⟨rfl,hb2⟩
     have HB2:=hide (HB1.out.trans (hb2.mono HB1.out.size))
     clear hb2))
 all_goals
  go_ret
  exact⟨rfl,HB2.out⟩
theorem SS (h:MH) (m:AC) (l:List EvM) (A:Option Addr) (c:Nat) (n:Int) (w:World) (d:MD w w.heap.size h m) (k1:m.rT.length≤h.rc) (k2:m.mT.length≤h.mc) (k3:m.lT.length≤h.lc)
    (hE:Rows BD 22 w w.heap.size A l) (hl:l.length≤40) (ha:Asc w) (hpw:F7 w) (hv:Ab m=false) :
    Calls Tryz.prog 3 #[.agg #[.slice h.s m.sT.length h.sc,.slice h.f m.fT.length h.fc,.slice h.r m.rT.length h.rc,.slice h.m m.mT.length h.mc,.slice h.l m.lT.length h.lc,.slice h.i m.iT.length h.ic,.int .i64 m.dT,.int .i64 m.oT,.int .i64 m.vT,.int .i64 m.aT,.slice h.u m.uT.length h.uc],.slice A l.length c,.int .i64 n] w (fun e w'=>e=.returned (.bool true)∧Below w.heap.size w w'):=by
 have hb:=(Below.refl w.heap.size w).alloc (Nat.le_refl _) (.cells #[.slice h.s m.sT.length h.sc,.slice h.f m.fT.length h.fc,.slice h.r m.rT.length h.rc,.slice h.m m.mT.length h.mc,.slice h.l m.lT.length h.lc,.slice h.i m.iT.length h.ic,.int .i64 m.dT,.int .i64 m.oT,.int .i64 m.vT,.int .i64 m.aT,.slice h.u m.uT.length h.uc] 29)
 have HB:=hide hb
 have HM0:=hide (AB.new w 29 #[.slice h.s m.sT.length h.sc,.slice h.f m.fT.length h.fc,.slice h.r m.rT.length h.rc,.slice h.m m.mT.length h.mc,.slice h.l m.lT.length h.lc,.slice h.i m.iT.length h.ic,.int .i64 m.dT,.int .i64 m.oT,.int .i64 m.vT,.int .i64 m.aT,.slice h.u m.uT.length h.uc])
 have HFW:=hide (Gc h m _ (d.grow hb))
 have HV:=hide (fun W (hW:Below w.heap.size w W)=>He h m W ((d.below hW).more hW.size))
 rw[hv] at HV
 have HAW:=hide (fun W (hW:Below w.heap.size w W)=>Ka W (ha.below (Nat.le_refl _) hW) (hpw.below (Nat.le_refl _) hW))
 have HP:=hide (fun W (hW:Below w.heap.size w W)=>K5 h m l.length A c W (d.grow hW) k1 k2 k3 (ha.below (Nat.le_refl _) hW) hv)
 have HBr:=hide (fun W (hW:Below w.heap.size w W)=>MZ h m l.length A c W (d.grow hW) k1 k2 k3 (ha.below (Nat.le_refl _) hW) hv)
 have HD:=hide (fun W (hW:Below w.heap.size w W)=>Ra h m l A c W (d.grow hW) k1 k2 k3 (ha.below (Nat.le_refl _) hW) hv (hE.grow hW) (by omega))
 have HO:=hide (fun W (hW:Below w.heap.size w W)=>Pe h m l.length A c n W (d.grow hW) k1 k2 k3 (ha.below (Nat.le_refl _) hW) hv)
 have HSu:=hide (fun W (hW:Below w.heap.size w W)=>Oa h m l.length A c W (d.grow hW) k1 k2 k3 (ha.below (Nat.le_refl _) hW) hv)
 have g1:¬ (40:Int)<(l.length:Int):=by omega
 clear hb d k1 k2 k3 hE ha hpw hv
 go_enter Tryz.func3,Tryz.ntmps3
 go_wp2_with (first
  | (go_at_call 4;refine HFW.out.mono ?_;rintro e w1 ⟨⟨b,rfl⟩,hb1⟩
     have hm1:=HM0.out.below hb1 (by simp)
     obtain⟨a0,a1,a2,a3,a4,a5,a6,a7,a8,a9,a10⟩:=MB.cells hm1
     have lt1:=hm1.lt
     have HB1:=hide (HB.out.trans (hb1.mono (by simp)))
     have HM1:=hide hm1
     clear hm1 hb1
     cases b)
  | (go_at_call 5;refine(HAW.out _ HB1.out).mono ?_;rintro e w2 ⟨rfl,hb2⟩
     have HB2:=hide (HB1.out.trans (hb2.mono HB1.out.size))
     clear hb2)
  | (go_at_call 6;refine(HV.out _ HB1.out).mono ?_;rintro e w2 ⟨rfl,hb2⟩
     have HS:=hide (MS.mk (HM1.out.below hb2 HM1.out.lt) (HB1.out.trans (hb2.mono HB1.out.size)))
     clear hb2 a0 a1 a2 a3 a4 a5 a6 a7 a8 a9 a10 lt1))
 · go_ret
   exact⟨rfl,HB2.out⟩
 · skip
   go_region_held3 (fun W=>(W.cell? ⟨w.heap.size,0,none⟩=some (.slice h.s m.sT.length h.sc)∧W.cell? ⟨w.heap.size,1,none⟩=some (.slice h.f m.fT.length h.fc)∧W.cell? ⟨w.heap.size,2,none⟩=some (.slice h.r m.rT.length h.rc)∧W.cell? ⟨w.heap.size,3,none⟩=some (.slice h.m m.mT.length h.mc)∧W.cell? ⟨w.heap.size,4,none⟩=some (.slice h.l m.lT.length h.lc)∧W.cell? ⟨w.heap.size,5,none⟩=some (.slice h.i m.iT.length h.ic)∧W.cell? ⟨w.heap.size,6,none⟩=some (.int .i64 m.dT)∧W.cell? ⟨w.heap.size,7,none⟩=some (.int .i64 m.oT)∧W.cell? ⟨w.heap.size,8,none⟩=some (.int .i64 m.vT)∧W.cell? ⟨w.heap.size,9,none⟩=some (.int .i64 m.aT)∧W.cell? ⟨w.heap.size,10,none⟩=some (.slice h.u m.uT.length h.uc))∧MS w #[.slice h.s m.sT.length h.sc,.slice h.f m.fT.length h.fc,.slice h.r m.rT.length h.rc,.slice h.m m.mT.length h.mc,.slice h.l m.lT.length h.lc,.slice h.i m.iT.length h.ic,.int .i64 m.dT,.int .i64 m.oT,.int .i64 m.vT,.int .i64 m.aT,.slice h.u m.uT.length h.uc] W)
    ((with_reducible (first|(go_keep;done)|exact⟨MS.cells HS.out.drew,HS.out.drew⟩|exact⟨MS.cells c6,c6⟩|exact⟨MS.cells c5,c5⟩|exact⟨MS.cells c4,c4⟩|exact⟨MS.cells c3,c3⟩|exact⟨MS.cells c2,c2⟩|exact⟨MS.cells c1,c1⟩|(have hH:=(by assumption:_∧MS _ _ _);exact⟨MS.cells (MS.drew hH.2),MS.drew hH.2⟩))))
    ((first
      | (go_at_call 7;have hH:=And.intro (MS.cells HS.out.drew) HS.out.drew;have hbw:=MS.b hH.2;(with_reducible refine(HP.out _ hbw).mono ?_);rintro e w3 ⟨rfl,hb⟩;have c1:=MS.grow hH.2 hb;clear hb hH hbw)
      | (go_at_call 8;(with_reducible refine(HBr.out _ (MS.b c1)).mono ?_);rintro e w4 ⟨rfl,hb⟩;have c2:=MS.grow c1 hb;clear hb)
      | (go_at_call 9;(with_reducible refine(HD.out _ (MS.b c2)).mono ?_);rintro e w5 ⟨rfl,hb⟩;have c3:=MS.grow c2 hb;clear hb)
      | (go_at_call 10;(with_reducible refine(HO.out _ (MS.b c3)).mono ?_);rintro e w6 ⟨rfl,hb⟩;have c4:=MS.grow c3 hb;clear hb)
      | (go_at_call 11;(with_reducible refine(HSu.out _ (MS.b c4)).mono ?_);rintro e w7 ⟨rfl,hb⟩;have c5:=MS.grow c4 hb;clear hb)
      | (go_at_call 5;(with_reducible refine(HAW.out _ (MS.b c5)).mono ?_);rintro e w8 ⟨rfl,hb⟩;have c6:=MS.grow c5 hb;clear hb)))
   go_wp2_with fail
   go_ret
   exact⟨rfl,c6.b⟩
theorem RI (h:MH) (m:AC) (l:List EvM) (A:Option Addr) (c:Nat) (n:Int) (w:World) (d:MD w w.heap.size h m) (k1:m.rT.length≤h.rc) (k2:m.mT.length≤h.mc) (k3:m.lT.length≤h.lc)
    (hE:Rows BD 22 w w.heap.size A l) (hl:l.length≤40) (hlc:l.length≤c) (hcm:c≤9223372036854775807) (ha:Asc w) (hpw:F7 w) (hv:Ab m=true) :
    Calls Tryz.prog 3 #[.agg #[.slice h.s m.sT.length h.sc,.slice h.f m.fT.length h.fc,.slice h.r m.rT.length h.rc,.slice h.m m.mT.length h.mc,.slice h.l m.lT.length h.lc,.slice h.i m.iT.length h.ic,.int .i64 m.dT,.int .i64 m.oT,.int .i64 m.vT,.int .i64 m.aT,.slice h.u m.uT.length h.uc],.slice A l.length c,.int .i64 n] w (fun e w'=>e=.returned (.bool true)∧Below w.heap.size w w'):=by
 have hb:=(Below.refl w.heap.size w).alloc (Nat.le_refl _) (.cells #[.slice h.s m.sT.length h.sc,.slice h.f m.fT.length h.fc,.slice h.r m.rT.length h.rc,.slice h.m m.mT.length h.mc,.slice h.l m.lT.length h.lc,.slice h.i m.iT.length h.ic,.int .i64 m.dT,.int .i64 m.oT,.int .i64 m.vT,.int .i64 m.aT,.slice h.u m.uT.length h.uc] 29)
 have HB:=hide hb
 have HM0:=hide (AB.new w 29 #[.slice h.s m.sT.length h.sc,.slice h.f m.fT.length h.fc,.slice h.r m.rT.length h.rc,.slice h.m m.mT.length h.mc,.slice h.l m.lT.length h.lc,.slice h.i m.iT.length h.ic,.int .i64 m.dT,.int .i64 m.oT,.int .i64 m.vT,.int .i64 m.aT,.slice h.u m.uT.length h.uc])
 have HFW:=hide (Gc h m _ (d.grow hb))
 have HV:=hide (fun W (hW:Below w.heap.size w W)=>He h m W ((d.below hW).more hW.size))
 have HF5:=hide (fun W (hW:Below w.heap.size w W)=>Qn h m l A c 40 W (d.grow hW) (hE.grow hW) (by omega))
 have HAW:=hide (fun W (hW:Below w.heap.size w W)=>Ka W (ha.below (Nat.le_refl _) hW) (hpw.below (Nat.le_refl _) hW))
 have HSP:=hide (fun(hold:∀ x∈l,x.old.length≤10) W (hW:Below w.heap.size w W)=>Ji h m l A c W (Gs (d.grow hW) hv) k1 k2 k3 (ha.below (Nat.le_refl _) hW) (hpw.below (Nat.le_refl _) hW) hv (hE.grow hW) (by omega) hold (.inr ⟨hlc,hcm⟩))
 have HSR:=hide (fun(hold:∀ x∈l,x.old.length≤10) W (hW:Below w.heap.size w W)=>Ob h m l A c W (Gs (d.grow hW) hv) hv (hE.grow hW) (by omega) hold ⟨hlc,hcm⟩)
 rw[hv] at HV
 have HSL:=hide (show(JE m l).length≤9223372036854775807 by unfold JE;split <;> simp)
 obtain⟨sl,hsl⟩:∃ sl,sl=JE m l:=⟨_,rfl⟩
 rw[← hsl] at HSP HSR HSL
 have HTX:=hide (fun W A1 A2 c1 c2 (h1:Strs W W.heap.size A1 sl) (h2:Strs W W.heap.size A2 sl)=>Oc A1 A2 c1 c2 sl W h1 h2 HSL.out)
 have g1:¬ (40:Int)<(l.length:Int):=by omega
 clear hb d k1 k2 k3 hE ha hpw hv hlc hcm hsl
 go_enter Tryz.func3,Tryz.ntmps3
 go_wp2_with (first
  | (go_at_call 4;refine HFW.out.mono ?_;rintro e w1 ⟨⟨b,rfl⟩,hb1⟩
     have hm1:=HM0.out.below hb1 (by simp)
     obtain⟨a0,a1,a2,a3,a4,a5,a6,a7,a8,a9,a10⟩:=MB.cells hm1
     have lt1:=hm1.lt
     have HB1:=hide (HB.out.trans (hb1.mono (by simp)))
     have HM1:=hide hm1
     clear hm1 hb1
     cases b)
  | (go_at_call 5;refine(HAW.out _ HB1.out).mono ?_;rintro e w9 ⟨rfl,hb2⟩
     have HB2:=hide (HB1.out.trans (hb2.mono HB1.out.size))
     clear hb2)
  | (go_at_call 6;refine(HV.out _ HB1.out).mono ?_;rintro e w2 ⟨rfl,hb2⟩
     have HMX:=HM1
     have HBX:=HB1
     clear a0 a1 a2 a3 a4 a5 a6 a7 a8 a9 a10 lt1 HM1 HB1
     have hm1:=HMX.out.below hb2 HMX.out.lt
     obtain⟨a0,a1,a2,a3,a4,a5,a6,a7,a8,a9,a10⟩:=MB.cells hm1
     have lt1:=hm1.lt
     have HB1:=hide (HBX.out.trans (hb2.mono HBX.out.size))
     have HM1:=hide hm1
     clear hm1 hb2 HMX HBX)
  | (go_at_call 12;refine(HF5.out _ HB1.out).mono ?_;rintro e w3 ⟨b,rfl,hb2,hq⟩
     have HQ:=hide hq
     have HMX:=HM1
     have HBX:=HB1
     clear a0 a1 a2 a3 a4 a5 a6 a7 a8 a9 a10 lt1 HM1 HB1
     have hm1:=HMX.out.below hb2 HMX.out.lt
     obtain⟨a0,a1,a2,a3,a4,a5,a6,a7,a8,a9,a10⟩:=MB.cells hm1
     have lt1:=hm1.lt
     have HB1:=hide (HBX.out.trans (hb2.mono HBX.out.size))
     have HM1:=hide hm1
     clear hm1 hb2 HMX HBX hq
     cases b))
 · go_ret
   exact⟨rfl,HB2.out⟩
 · go_ret
   exact⟨rfl,HB2.out⟩
 · have hold:=(HQ.out trivial).2.2
   have HSP2:=hide (HSP.out hold)
   have HSR2:=hide (HSR.out hold)
   have HS:=hide (MS.mk HM1.out HB1.out)
   clear HQ hold HSP HSR a0 a1 a2 a3 a4 a5 a6 a7 a8 a9 a10 lt1
   go_region_held3 (fun W=>(W.cell? ⟨w.heap.size,0,none⟩=some (.slice h.s m.sT.length h.sc)∧W.cell? ⟨w.heap.size,1,none⟩=some (.slice h.f m.fT.length h.fc)∧W.cell? ⟨w.heap.size,2,none⟩=some (.slice h.r m.rT.length h.rc)∧W.cell? ⟨w.heap.size,3,none⟩=some (.slice h.m m.mT.length h.mc)∧W.cell? ⟨w.heap.size,4,none⟩=some (.slice h.l m.lT.length h.lc)∧W.cell? ⟨w.heap.size,5,none⟩=some (.slice h.i m.iT.length h.ic)∧W.cell? ⟨w.heap.size,6,none⟩=some (.int .i64 m.dT)∧W.cell? ⟨w.heap.size,7,none⟩=some (.int .i64 m.oT)∧W.cell? ⟨w.heap.size,8,none⟩=some (.int .i64 m.vT)∧W.cell? ⟨w.heap.size,9,none⟩=some (.int .i64 m.aT)∧W.cell? ⟨w.heap.size,10,none⟩=some (.slice h.u m.uT.length h.uc))∧MS w #[.slice h.s m.sT.length h.sc,.slice h.f m.fT.length h.fc,.slice h.r m.rT.length h.rc,.slice h.m m.mT.length h.mc,.slice h.l m.lT.length h.lc,.slice h.i m.iT.length h.ic,.int .i64 m.dT,.int .i64 m.oT,.int .i64 m.vT,.int .i64 m.aT,.slice h.u m.uT.length h.uc] W)
    ((with_reducible (first|(go_keep;done)|exact⟨MS.cells HS.out.drew,HS.out.drew⟩|exact⟨MS.cells c4,c4⟩|exact⟨MS.cells c3,c3⟩|exact⟨MS.cells c2,c2⟩|exact⟨MS.cells c1,c1⟩|(have hH:=(by assumption:_∧MS _ _ _);exact⟨MS.cells (MS.drew hH.2),MS.drew hH.2⟩))))
    ((first
      | (go_at_call 11;have hH:=And.intro (MS.cells HS.out.drew) HS.out.drew;have hbw:=MS.b hH.2;(with_reducible refine(HSP2.out _ hbw).mono ?_);rintro e w4 ⟨A4,k4,rfl,hr4,hb⟩;have c1:=MS.grow hH.2 hb;clear hb hH hbw)
      | (go_at_call 14;(with_reducible refine(HSR2.out _ (MS.b c1)).mono ?_);rintro e w5 ⟨A5,k5,rfl,hr5,hb⟩;have hr45:=hr4.grow hb;have c2:=MS.grow c1 hb;clear hb)
      | (go_at_call 13;(with_reducible refine(HTX.out _ _ _ _ _ hr45 hr5).mono ?_);rintro e w6 ⟨rfl,hb⟩;have c3:=MS.grow c2 hb;clear hb)
      | (go_at_call 5;(with_reducible refine(HAW.out _ (MS.b c3)).mono ?_);rintro e w7 ⟨rfl,hb⟩;have c4:=MS.grow c3 hb;clear hb)))
   go_wp2_with fail
   go_ret
   exact⟨rfl,c4.b⟩
theorem Hz (h:MH) (m:AC) (l:List EvM) (A:Option Addr) (c:Nat) (n:Int) (w:World) (d:MD w w.heap.size h m) (k1:m.rT.length≤h.rc) (k2:m.mT.length≤h.mc) (k3:m.lT.length≤h.lc)
    (hE:Rows BD 22 w w.heap.size A l) (hl:l.length≤9223372036854775807) (hlc:l.length≤c) (hcm:c≤9223372036854775807) (ha:Asc w) (hpw:F7 w) :
    Calls Tryz.prog 3 #[.agg #[.slice h.s m.sT.length h.sc,.slice h.f m.fT.length h.fc,.slice h.r m.rT.length h.rc,.slice h.m m.mT.length h.mc,.slice h.l m.lT.length h.lc,.slice h.i m.iT.length h.ic,.int .i64 m.dT,.int .i64 m.oT,.int .i64 m.vT,.int .i64 m.aT,.slice h.u m.uT.length h.uc],.slice A l.length c,.int .i64 n] w (fun e w'=>e=.returned (.bool true)∧Below w.heap.size w w'):=by
 by_cases hfar:l.length≤40
 · cases hv:Ab m
   · exact SS h m l A c n w d k1 k2 k3 hE hfar ha hpw hv
   · exact RI h m l A c n w d k1 k2 k3 hE hfar hlc hcm ha hpw hv
 · exact SV h m l A c n w d hl hfar ha hpw
end Go.Proofs.YtfemlajeomohhaaGreatDoor
