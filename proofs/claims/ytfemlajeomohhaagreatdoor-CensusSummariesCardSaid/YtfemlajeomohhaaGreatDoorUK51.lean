/- A part of the claim: see its last text. -/
import Derived.Test.YtfemlajeomohhaaGreatDoorUK28

set_option maxRecDepth 100000
set_option maxHeartbeats 16000000
namespace Go.Proofs.YtfemlajeomohhaaGreatDoor
open Go Go.RowKit Go.Proofs
def Jr(m:AC):Bool:=Bd m && decide (m.iT.length≤8) && decide (m.uT.length≤40) && FZ m
theorem Td (m:AC):Ab m=(Jr m && (EE m && m.iT.all (BM m) && m.uT.all (Aj m))):=by
 unfold Ab Jr
 generalize Bd m=a
 generalize decide (m.iT.length≤8)=b
 generalize decide (m.uT.length≤40)=c
 generalize EE m=d
 generalize m.iT.all (BM m)=e
 generalize m.uT.all (Aj m)=f
 generalize FZ m=g
 cases a <;> cases b <;> cases c <;> cases d <;> cases e <;> cases f <;> cases g <;> rfl
theorem Uq (h:MH) (m:AC) (w:World) (d:MD w w.heap.size h m) (k1:m.rT.length≤h.rc) (k2:m.mT.length≤h.mc) (k3:m.lT.length≤h.lc) (v1:Bd m=false) :
    Calls Tryz.prog 23 #[.agg #[.slice h.s m.sT.length h.sc,.slice h.f m.fT.length h.fc,.slice h.r m.rT.length h.rc,.slice h.m m.mT.length h.mc,.slice h.l m.lT.length h.lc,.slice h.i m.iT.length h.ic,.int .i64 m.dT,.int .i64 m.oT,.int .i64 m.vT,.int .i64 m.aT,.slice h.u m.uT.length h.uc]] w fun e w'=>e=.returned (.bool false)∧Below w.heap.size w w':=by
 have hl0:=d.sl
 have hl5:=d.il
 have hl6:=d.ul
 have HW0:=hide (MW.start w h m)
 have HS:=hide (Bn h m (w.alloc (.cells #[.slice h.s m.sT.length h.sc,.slice h.f m.fT.length h.fc,.slice h.r m.rT.length h.rc,.slice h.m m.mT.length h.mc,.slice h.l m.lT.length h.lc,.slice h.i m.iT.length h.ic,.int .i64 m.dT,.int .i64 m.oT,.int .i64 m.vT,.int .i64 m.aT,.slice h.u m.uT.length h.uc] 29)) ((MW.start w h m).md d) k1 k2 k3)
 rw[v1] at HS
 clear d
 go_enter Tryz.func23,Tryz.ntmps23
 go_wp2_with (first
  | (go_at_call 51;refine HS.out.mono ?_;rintro e w1 ⟨rfl,hb1⟩;have hW1:=HW0.out.grow hb1;obtain⟨a0,a1,a2,a3,a4,a5,a6,a7,a8,a9,a10⟩:=MB.cells hW1.blk;have ha:=hW1.lt;clear hb1)
  | (go_at_call 52;refine(Aw _ _ _ _).mono ?_;rintro e w2 ⟨rfl,rfl⟩))
 go_ret
 exact⟨rfl,hW1.b⟩
theorem Ur (h:MH) (m:AC) (w:World) (d:MD w w.heap.size h m) (k1:m.rT.length≤h.rc) (k2:m.mT.length≤h.mc) (k3:m.lT.length≤h.lc) (v1:Bd m=true) (v2:(8:Int)<m.iT.length) :
    Calls Tryz.prog 23 #[.agg #[.slice h.s m.sT.length h.sc,.slice h.f m.fT.length h.fc,.slice h.r m.rT.length h.rc,.slice h.m m.mT.length h.mc,.slice h.l m.lT.length h.lc,.slice h.i m.iT.length h.ic,.int .i64 m.dT,.int .i64 m.oT,.int .i64 m.vT,.int .i64 m.aT,.slice h.u m.uT.length h.uc]] w fun e w'=>e=.returned (.bool false)∧Below w.heap.size w w':=by
 have hl0:=d.sl
 have hl5:=d.il
 have hl6:=d.ul
 have HW0:=hide (MW.start w h m)
 have HS:=hide (Bn h m (w.alloc (.cells #[.slice h.s m.sT.length h.sc,.slice h.f m.fT.length h.fc,.slice h.r m.rT.length h.rc,.slice h.m m.mT.length h.mc,.slice h.l m.lT.length h.lc,.slice h.i m.iT.length h.ic,.int .i64 m.dT,.int .i64 m.oT,.int .i64 m.vT,.int .i64 m.aT,.slice h.u m.uT.length h.uc] 29)) ((MW.start w h m).md d) k1 k2 k3)
 rw[v1] at HS
 clear d
 go_enter Tryz.func23,Tryz.ntmps23
 go_wp2_with (first
  | (go_at_call 51;refine HS.out.mono ?_;rintro e w1 ⟨rfl,hb1⟩;have hW1:=HW0.out.grow hb1;obtain⟨a0,a1,a2,a3,a4,a5,a6,a7,a8,a9,a10⟩:=MB.cells hW1.blk;have ha:=hW1.lt;clear hb1)
  | (go_at_call 52;refine(Aw _ _ _ _).mono ?_;rintro e w2 ⟨rfl,rfl⟩))
 go_ret
 exact⟨rfl,hW1.b⟩
theorem Us (h:MH) (m:AC) (w:World) (d:MD w w.heap.size h m) (k1:m.rT.length≤h.rc) (k2:m.mT.length≤h.mc) (k3:m.lT.length≤h.lc) (v1:Bd m=true) (v2:(m.iT.length:Int)≤8) (v3:(40:Int)<m.uT.length) :
    Calls Tryz.prog 23 #[.agg #[.slice h.s m.sT.length h.sc,.slice h.f m.fT.length h.fc,.slice h.r m.rT.length h.rc,.slice h.m m.mT.length h.mc,.slice h.l m.lT.length h.lc,.slice h.i m.iT.length h.ic,.int .i64 m.dT,.int .i64 m.oT,.int .i64 m.vT,.int .i64 m.aT,.slice h.u m.uT.length h.uc]] w fun e w'=>e=.returned (.bool false)∧Below w.heap.size w w':=by
 have hl0:=d.sl
 have hl5:=d.il
 have hl6:=d.ul
 have HW0:=hide (MW.start w h m)
 have HS:=hide (Bn h m (w.alloc (.cells #[.slice h.s m.sT.length h.sc,.slice h.f m.fT.length h.fc,.slice h.r m.rT.length h.rc,.slice h.m m.mT.length h.mc,.slice h.l m.lT.length h.lc,.slice h.i m.iT.length h.ic,.int .i64 m.dT,.int .i64 m.oT,.int .i64 m.vT,.int .i64 m.aT,.slice h.u m.uT.length h.uc] 29)) ((MW.start w h m).md d) k1 k2 k3)
 rw[v1] at HS
 clear d
 go_enter Tryz.func23,Tryz.ntmps23
 go_wp2_with (first
  | (go_at_call 51;refine HS.out.mono ?_;rintro e w1 ⟨rfl,hb1⟩;have hW1:=HW0.out.grow hb1;obtain⟨a0,a1,a2,a3,a4,a5,a6,a7,a8,a9,a10⟩:=MB.cells hW1.blk;have ha:=hW1.lt;clear hb1)
  | (go_at_call 52;refine(Aw _ _ _ _).mono ?_;rintro e w2 ⟨rfl,rfl⟩))
 go_ret
 exact⟨rfl,hW1.b⟩
theorem Ut (h:MH) (m:AC) (w:World) (d:MD w w.heap.size h m) (k1:m.rT.length≤h.rc) (k2:m.mT.length≤h.mc) (k3:m.lT.length≤h.lc) (v1:Bd m=true) (v2:(m.iT.length:Int)≤8) (v3:(m.uT.length:Int)≤40) (v4:Au m.dT 1 m.sT.length=false) :
    Calls Tryz.prog 23 #[.agg #[.slice h.s m.sT.length h.sc,.slice h.f m.fT.length h.fc,.slice h.r m.rT.length h.rc,.slice h.m m.mT.length h.mc,.slice h.l m.lT.length h.lc,.slice h.i m.iT.length h.ic,.int .i64 m.dT,.int .i64 m.oT,.int .i64 m.vT,.int .i64 m.aT,.slice h.u m.uT.length h.uc]] w fun e w'=>e=.returned (.bool false)∧Below w.heap.size w w':=by
 have hl0:=d.sl
 have hl5:=d.il
 have hl6:=d.ul
 have HW0:=hide (MW.start w h m)
 have HS:=hide (Bn h m (w.alloc (.cells #[.slice h.s m.sT.length h.sc,.slice h.f m.fT.length h.fc,.slice h.r m.rT.length h.rc,.slice h.m m.mT.length h.mc,.slice h.l m.lT.length h.lc,.slice h.i m.iT.length h.ic,.int .i64 m.dT,.int .i64 m.oT,.int .i64 m.vT,.int .i64 m.aT,.slice h.u m.uT.length h.uc] 29)) ((MW.start w h m).md d) k1 k2 k3)
 rw[v1] at HS
 clear d
 go_enter Tryz.func23,Tryz.ntmps23
 go_wp2_with (first
  | (go_at_call 51;refine HS.out.mono ?_;rintro e w1 ⟨rfl,hb1⟩;have hW1:=HW0.out.grow hb1;obtain⟨a0,a1,a2,a3,a4,a5,a6,a7,a8,a9,a10⟩:=MB.cells hW1.blk;have ha:=hW1.lt;clear hb1)
  | (go_at_call 52;refine(Aw _ _ _ _).mono ?_;rintro e w2 ⟨rfl,rfl⟩))
 go_ret
 exact⟨rfl,hW1.b⟩
theorem Uu (h:MH) (m:AC) (w:World) (d:MD w w.heap.size h m) (k1:m.rT.length≤h.rc) (k2:m.mT.length≤h.mc) (k3:m.lT.length≤h.lc) (v1:Bd m=true) (v2:(m.iT.length:Int)≤8) (v3:(m.uT.length:Int)≤40) (v4:Au m.dT 1 m.sT.length=true) (v5:Au m.oT 1 16=false) :
    Calls Tryz.prog 23 #[.agg #[.slice h.s m.sT.length h.sc,.slice h.f m.fT.length h.fc,.slice h.r m.rT.length h.rc,.slice h.m m.mT.length h.mc,.slice h.l m.lT.length h.lc,.slice h.i m.iT.length h.ic,.int .i64 m.dT,.int .i64 m.oT,.int .i64 m.vT,.int .i64 m.aT,.slice h.u m.uT.length h.uc]] w fun e w'=>e=.returned (.bool false)∧Below w.heap.size w w':=by
 have hl0:=d.sl
 have hl5:=d.il
 have hl6:=d.ul
 have HW0:=hide (MW.start w h m)
 have HS:=hide (Bn h m (w.alloc (.cells #[.slice h.s m.sT.length h.sc,.slice h.f m.fT.length h.fc,.slice h.r m.rT.length h.rc,.slice h.m m.mT.length h.mc,.slice h.l m.lT.length h.lc,.slice h.i m.iT.length h.ic,.int .i64 m.dT,.int .i64 m.oT,.int .i64 m.vT,.int .i64 m.aT,.slice h.u m.uT.length h.uc] 29)) ((MW.start w h m).md d) k1 k2 k3)
 rw[v1] at HS
 clear d
 go_enter Tryz.func23,Tryz.ntmps23
 go_wp2_with (first
  | (go_at_call 51;refine HS.out.mono ?_;rintro e w1 ⟨rfl,hb1⟩;have hW1:=HW0.out.grow hb1;obtain⟨a0,a1,a2,a3,a4,a5,a6,a7,a8,a9,a10⟩:=MB.cells hW1.blk;have ha:=hW1.lt;clear hb1)
  | (go_at_call 52;refine(Aw _ _ _ _).mono ?_;rintro e w2 ⟨rfl,rfl⟩))
 go_ret
 exact⟨rfl,hW1.b⟩
theorem Uv (h:MH) (m:AC) (w:World) (d:MD w w.heap.size h m) (k1:m.rT.length≤h.rc) (k2:m.mT.length≤h.mc) (k3:m.lT.length≤h.lc) (v1:Bd m=true) (v2:(m.iT.length:Int)≤8) (v3:(m.uT.length:Int)≤40) (v4:Au m.dT 1 m.sT.length=true) (v5:Au m.oT 1 16=true) (v6:Au m.vT 0 (m.oT - 1)=false) :
    Calls Tryz.prog 23 #[.agg #[.slice h.s m.sT.length h.sc,.slice h.f m.fT.length h.fc,.slice h.r m.rT.length h.rc,.slice h.m m.mT.length h.mc,.slice h.l m.lT.length h.lc,.slice h.i m.iT.length h.ic,.int .i64 m.dT,.int .i64 m.oT,.int .i64 m.vT,.int .i64 m.aT,.slice h.u m.uT.length h.uc]] w fun e w'=>e=.returned (.bool false)∧Below w.heap.size w w':=by
 have hl0:=d.sl
 have hl5:=d.il
 have hl6:=d.ul
 have HW0:=hide (MW.start w h m)
 have HS:=hide (Bn h m (w.alloc (.cells #[.slice h.s m.sT.length h.sc,.slice h.f m.fT.length h.fc,.slice h.r m.rT.length h.rc,.slice h.m m.mT.length h.mc,.slice h.l m.lT.length h.lc,.slice h.i m.iT.length h.ic,.int .i64 m.dT,.int .i64 m.oT,.int .i64 m.vT,.int .i64 m.aT,.slice h.u m.uT.length h.uc] 29)) ((MW.start w h m).md d) k1 k2 k3)
 rw[v1] at HS
 have fb:1≤m.oT∧m.oT≤16:=by simpa[Au] using v5
 obtain⟨fb1,fb2⟩:=fb
 clear d
 go_enter Tryz.func23,Tryz.ntmps23
 go_wp2_with (first
  | (go_at_call 51;refine HS.out.mono ?_;rintro e w1 ⟨rfl,hb1⟩;have hW1:=HW0.out.grow hb1;obtain⟨a0,a1,a2,a3,a4,a5,a6,a7,a8,a9,a10⟩:=MB.cells hW1.blk;have ha:=hW1.lt;clear hb1)
  | (go_at_call 52;refine(Aw _ _ _ _).mono ?_;rintro e w2 ⟨rfl,rfl⟩))
 go_ret
 exact⟨rfl,hW1.b⟩
theorem Uw (h:MH) (m:AC) (w:World) (d:MD w w.heap.size h m) (k1:m.rT.length≤h.rc) (k2:m.mT.length≤h.mc) (k3:m.lT.length≤h.lc) (v1:Bd m=true) (v2:(m.iT.length:Int)≤8) (v3:(m.uT.length:Int)≤40) (v4:Au m.dT 1 m.sT.length=true) (v5:Au m.oT 1 16=true) (v6:Au m.vT 0 (m.oT - 1)=true) (v7:Au m.aT 0 7=false) :
    Calls Tryz.prog 23 #[.agg #[.slice h.s m.sT.length h.sc,.slice h.f m.fT.length h.fc,.slice h.r m.rT.length h.rc,.slice h.m m.mT.length h.mc,.slice h.l m.lT.length h.lc,.slice h.i m.iT.length h.ic,.int .i64 m.dT,.int .i64 m.oT,.int .i64 m.vT,.int .i64 m.aT,.slice h.u m.uT.length h.uc]] w fun e w'=>e=.returned (.bool false)∧Below w.heap.size w w':=by
 have hl0:=d.sl
 have hl5:=d.il
 have hl6:=d.ul
 have HW0:=hide (MW.start w h m)
 have HS:=hide (Bn h m (w.alloc (.cells #[.slice h.s m.sT.length h.sc,.slice h.f m.fT.length h.fc,.slice h.r m.rT.length h.rc,.slice h.m m.mT.length h.mc,.slice h.l m.lT.length h.lc,.slice h.i m.iT.length h.ic,.int .i64 m.dT,.int .i64 m.oT,.int .i64 m.vT,.int .i64 m.aT,.slice h.u m.uT.length h.uc] 29)) ((MW.start w h m).md d) k1 k2 k3)
 rw[v1] at HS
 have fb:1≤m.oT∧m.oT≤16:=by simpa[Au] using v5
 obtain⟨fb1,fb2⟩:=fb
 clear d
 go_enter Tryz.func23,Tryz.ntmps23
 go_wp2_with (first
  | (go_at_call 51;refine HS.out.mono ?_;rintro e w1 ⟨rfl,hb1⟩;have hW1:=HW0.out.grow hb1;obtain⟨a0,a1,a2,a3,a4,a5,a6,a7,a8,a9,a10⟩:=MB.cells hW1.blk;have ha:=hW1.lt;clear hb1)
  | (go_at_call 52;refine(Aw _ _ _ _).mono ?_;rintro e w2 ⟨rfl,rfl⟩))
 go_ret
 exact⟨rfl,hW1.b⟩
theorem Tg (h:MH) (m:AC) (w:World) (d:MD w w.heap.size h m) (k1:m.rT.length≤h.rc) (k2:m.mT.length≤h.mc) (k3:m.lT.length≤h.lc) (hv:Jr m=false) :
    Calls Tryz.prog 23 #[.agg #[.slice h.s m.sT.length h.sc,.slice h.f m.fT.length h.fc,.slice h.r m.rT.length h.rc,.slice h.m m.mT.length h.mc,.slice h.l m.lT.length h.lc,.slice h.i m.iT.length h.ic,.int .i64 m.dT,.int .i64 m.oT,.int .i64 m.vT,.int .i64 m.aT,.slice h.u m.uT.length h.uc]] w fun e w'=>e=.returned (.bool false)∧Below w.heap.size w w':=by
 have hB:∀ b:Bool,b=false∨b=true:=fun b=>by cases b <;> simp
 rcases hB (Bd m) with v1|v1
 · exact Uq h m w d k1 k2 k3 v1
 rcases Classical.em ((m.iT.length:Int)≤8) with v2|v2
 · rcases Classical.em ((m.uT.length:Int)≤40) with v3|v3
   · rcases hB (Au m.dT 1 m.sT.length) with v4|v4
     · exact Ut h m w d k1 k2 k3 v1 v2 v3 v4
     rcases hB (Au m.oT 1 16) with v5|v5
     · exact Uu h m w d k1 k2 k3 v1 v2 v3 v4 v5
     rcases hB (Au m.vT 0 (m.oT - 1)) with v6|v6
     · exact Uv h m w d k1 k2 k3 v1 v2 v3 v4 v5 v6
     rcases hB (Au m.aT 0 7) with v7|v7
     · exact Uw h m w d k1 k2 k3 v1 v2 v3 v4 v5 v6 v7
     · have e1:decide (m.iT.length≤8)=true:=decide_eq_true (by omega)
       have e2:decide (m.uT.length≤40)=true:=decide_eq_true (by omega)
       rw[QM] at v4
       rw[Jr,v1,e1,e2,FZ,v4,v5,v6,v7] at hv
       cases hv
   · exact Us h m w d k1 k2 k3 v1 v2 (by omega)
 · exact Ur h m w d k1 k2 k3 v1 (by omega)
theorem SY (h : MH) (m:AC) (w:World) (d:MD w w.heap.size h m) (k1:m.rT.length≤h.rc) (k2:m.mT.length≤h.mc) (k3:m.lT.length≤h.lc) (ha:Asc w) (hp:Jr m=true) (hv:(EE m && m.iT.all (BM m) && m.uT.all (Aj m))=false) :
    Calls Tryz.prog 23 #[.agg #[.slice h.s m.sT.length h.sc,.slice h.f m.fT.length h.fc,.slice h.r m.rT.length h.rc,.slice h.m m.mT.length h.mc,.slice h.l m.lT.length h.lc,.slice h.i m.iT.length h.ic,.int .i64 m.dT,.int .i64 m.oT,.int .i64 m.vT,.int .i64 m.aT,.slice h.u m.uT.length h.uc]] w fun e w'=>e=.returned (.bool false)∧Below w.heap.size w w':=by
 have hp2:=hp
 simp only[Jr,FZ,Bool.and_eq_true,decide_eq_true_eq] at hp2
 obtain⟨⟨⟨v1,v2⟩,v3⟩,⟨⟨⟨v7,v8⟩,v9⟩,v10⟩⟩:=hp2
 have hl0:=d.sl
 have hl5:=d.il
 have hl6:=d.ul
 have hl3:=d.ml
 have hfit:=I6 d
 have HW0:=hide (MW.start w h m)
 have D:=hide d
 have hmm:=@run_makeMap Tryz.prog
 have hS:=Bn h m (w.alloc (.cells #[.slice h.s m.sT.length h.sc,.slice h.f m.fT.length h.fc,.slice h.r m.rT.length h.rc,.slice h.m m.mT.length h.mc,.slice h.l m.lT.length h.lc,.slice h.i m.iT.length h.ic,.int .i64 m.dT,.int .i64 m.oT,.int .i64 m.vT,.int .i64 m.aT,.slice h.u m.uT.length h.uc] 29)) ((MW.start w h m).md d) k1 k2 k3
 rw[v1] at hS
 have HS:=hide hS
 obtain⟨z1,z2,z3,z4⟩:=II v1
 have fb:1≤m.oT∧m.oT≤16:=by simpa[Au] using v8
 obtain⟨fb1,fb2⟩:=fb
 have HV7:=hide (show Au m.dT 1 m.sT.length=true from v7)
 have hv7:=HV7.out
 have HN:=hide fun(W:World) (hW:MW w w.heap.size W h m)=>KJ h m W (hW.md D.out) z1 z2 z3 z4 (by omega)
 have HL:=hide (show(AV m).length≤600 by rw[← F5];exact(KL z1 z2 z3 z4 (by omega) _).2.2)
 have HF:=hide hfit
 have HX:=hide hv
 have HA:=hide ha
 clear hS hfit v1 z1 z2 z3 z4 v7 hv hp d ha
 go_enter Tryz.func23,Tryz.ntmps23
 go_wp2_with (first
  | (go_at_call 51;refine HS.out.mono ?_;rintro e w1 ⟨rfl,hb1⟩;have hW1:=HW0.out.grow hb1;obtain⟨a0,a1,a2,a3,a4,a5,a6,a7,a8,a9,a10⟩:=MB.cells hW1.blk;have ha:=hW1.lt;clear hb1)
  | (go_at_call 52;refine(Aw _ _ _ _).mono ?_;rintro e w2 ⟨rfl,rfl⟩)
  | (go_at_call 53;refine(HN.out _ (hW1.grow ((Below.refl _ _).alloc (Nat.le_refl _) (.map #[] 0)))).mono ?_;rintro e w2 ⟨A,c,rfl,hc,hStr,hb2⟩
     have hW2:=(hW1.grow ((Below.refl _ _).alloc (Nat.le_refl _) (.map #[] 0))).grow hb2
     have hmp:w2.heap[w1.heap.size]? = some (.map (EO []) 0):=(hb2.block w1.heap.size (by simp)).trans (heap_alloc_new w1 _)))
 have hW1lt:w.heap.size<w1.heap.size:=hW1.lt
 have HS0:=hide (And.intro hW2 (And.intro hmp hStr))
 have H12:=hide (show w1.heap.size<w2.heap.size from by have:=hb2.size;simp at this;omega)
 clear hW1 hW2 hmp hStr hb2 a0 a1 a2 a3 a4 a5 a6 a7 a8 a9 a10 hv7 v8 v9 v10 HS HW0 HN
 go_loopw [55] (fun i wr=>∃ k:Nat,k≤(AV m).length∧i=.int .i64 k∧w1.heap.size<wr.heap.size∧Hid (MW w w.heap.size wr h m)∧Hid (wr.heap[w1.heap.size]? = some (.map (EO ((AV m).take k)) k))∧Hid (Strs wr w2.heap.size A (AV m)∧w2.heap.size≤wr.heap.size)∧Hid (∀ j (hj:j<(AV m).length),j<k→(BK (AV m)[j] && !Be ((AV m).take j) (AV m)[j])=true)) (fun i _=>(AV m).length - (intOf i).toNat)
 case atStart=>exact⟨0,Nat.zero_le _,rfl,H12.out,HS0.out.1,HS0.out.2.1,⟨HS0.out.2.2,Nat.le_refl _⟩,hide (fun j _ hj=>absurd hj (Nat.not_lt_zero _))⟩
 case round =>
  clear HS0 H12
  obtain⟨k,hk,rfl,hw1,hW,hMp,hStr,hSF⟩:=hrel
  have hnl:=HL.out
  have hW0lt:=hW.out.lt
  by_cases hlt:k<(AV m).length
  · obtain ⟨b, off,hA,hb,x0⟩:=GY hStr.out.1 hlt
    subst hA
    have hbw:b<wr.heap.size:=by have:=hStr.out.2;omega
    have hB:∀ b:Bool,b=false∨b=true:=fun b=>by cases b <;> simp
    rcases hB (BK (AV m)[k]) with o1|o1
    · have HI:=hide (FP (AV m)[k] wr (HA.out.below (Nat.le_refl _) hW.out.b) (HF.out _ (List.getElem_mem hlt)))
      rw[o1] at HI
      clear o1 hSF
      generalize hnm:(AV m)[k]=nm at *
      clear hnm
      go_wp2_with (go_at_call 54;refine HI.out.mono ?_;rintro e w3 ⟨rfl,hb3⟩)
      go_ret
      exact⟨rfl,(hW.out.grow hb3).b⟩
    rcases hB (Be ((AV m).take k) (AV m)[k]) with o2|o2
    rotate_left
    · have HI := hide (FP (AV m)[k] wr (HA.out.below (Nat.le_refl _) hW.out.b) (HF.out _ (List.getElem_mem hlt)))
      rw[o1] at HI
      have O2:=hide o2
      clear o1 o2 hSF
      generalize hnm:(AV m)[k]=nm at *
      clear hnm
      go_wp2_with (go_at_call 54;refine HI.out.mono ?_;rintro e w3 ⟨rfl,hb3⟩
                   have hM3:w3.heap[w1.heap.size]? = some (.map (EO ((AV m).take k)) k):=(hb3.block _ hw1).trans hMp.out
                   have hlk:=I5 hM3 nm
                   rw[O2.out] at hlk
                   have hs3:=hb3.size
                   clear hM3)
      go_ret
      exact⟨rfl,(hW.out.grow hb3).b⟩
    have HSF:=hide (show ∀ j (hj:j<(AV m).length),j<k+1→(BK (AV m)[j] && !Be ((AV m).take j) (AV m)[j])=true from fun j hj hjk=>by
     by_cases e:j=k
     · subst e;rw[o1,o2];rfl
     · exact hSF.out j hj (by omega))
    clear hSF
    have HI:=hide (FP (AV m)[k] wr (HA.out.below (Nat.le_refl _) hW.out.b) (HF.out _ (List.getElem_mem hlt)))
    rw[o1] at HI
    have HP:=hide (LM ((AV m).take k) (AV m)[k])
    have HTK:=hide (show(AV m).take k ++ [(AV m)[k]]=(AV m).take (k+1) by rw[List.take_succ_eq_append_getElem hlt])
    have HLN:=hide (show((AV m).take k).length=k by simp;omega)
    have HFN:=hide (KE o2)
    have O2:=hide o2
    clear o1 o2
    generalize hnm:(AV m)[k]=nm at *
    clear hnm
    go_wp2_with (first
     | (go_at_call 54;refine HI.out.mono ?_;rintro e w3 ⟨rfl,hb3⟩
        have hM3:w3.heap[w1.heap.size]? = some (.map (EO ((AV m).take k)) k):=(hb3.block _ hw1).trans hMp.out
        have hlk:=I5 hM3 nm
        rw[O2.out] at hlk
        have HM3:=hide hM3
        have hs3:=hb3.size
        clear hM3)
     | (refine Ef rfl rfl _ _ _ _ rfl Tryz.underlying96 Tryz.underlying9 HM3.out rfl rfl rfl HFN.out ?_;intro w4 hM4 hb4
        have HM4:=hide hM4
        have HB4:=hide hb4
        clear hM4 hb4))
    have hS4:Strs w4 w2.heap.size (some ⟨b,off,none⟩) (AV m):=(hStr.out.1.keep fun p hp=>hb3.cell (by have:=hStr.out.2;omega)).keep fun p hp=>Ic HM3.out HM4.out HB4.out p (by have:=hStr.out.2;omega)
    have hs4:=HB4.out.size
    have hM4':w4.heap[w1.heap.size]? = some (.map (EO ((AV m).take (k+1))) (k+1)):=by
     rw[← HTK.out,← HP.out,HLN.out];exact HM4.out
    go_roundw
    case rel=>exact⟨k+1,by omega,by go_num,by omega,hide ((hW.out.grow hb3).but HB4.out (by omega) (by omega)),hM4',⟨hS4,by have:=hStr.out.2;omega⟩,HSF⟩
    case measure=>simp[intOf];omega
  · have hWm:=hW.out
    have HIt:=hide (Fj 56 #[.pointer (some ⟨w.heap.size,0,none⟩)] (fun _ _=>by kernel_rfl) (fun x=>!BM m x) h.i h.ic m.iT wr hl5 (hWm.md D.out).dI (fun i hi A2 c2 W hW2 g1 g2 gI=>M0 h m w.heap.size W m.iT[i] A2 c2 (hWm.grow hW2).blk hl3 g1 g2 gI))
    have HRu:=hide fun(W0:World) (hW0:MW w w.heap.size W0 h m)=>Fp 59 #[.pointer (some ⟨w.heap.size,0,none⟩)] (fun _ _=>by kernel_rfl) (fun x=>!Aj m x) h.u h.uc m.uT W0 hl6 (hW0.md D.out).dU (fun i hi A2 c2 W hW2 g1 g2 gI=>NH h m w.heap.size W m.uT[i] A2 c2 (hW0.grow hW2).blk ((hW0.grow hW2).md D.out) g1 g2 gI)
    have hnb:EE m=true:=Dg fun j hj=>hSF.out j hj (by omega)
    have hx2:=HX.out
    rw[hnb,Bool.true_and] at hx2
    obtain⟨a0,a1,a2,a3,a4,a5,a6,a7,a8,a9,a10⟩:=MB.cells hWm.blk
    have hB:∀ b:Bool,b=false∨b=true:=fun b=>by cases b <;> simp
    rcases hB (m.iT.all (BM m)) with i1|i1
    · have e1:m.iT.any (fun x=>!BM m x)=true:=by rw[GA,i1];rfl
      rw[e1] at HIt
      clear e1 i1 hx2 hnb HRu hSF
      go_wp2_with (go_at_call 55;refine HIt.out.mono ?_;rintro e w3 ⟨rfl,hb3⟩;have hW3:=hWm.grow hb3;clear hb3)
      go_ret
      exact⟨rfl,hW3.b⟩
    · rw[i1,Bool.true_and] at hx2
      have e1:m.iT.any (fun x=>!BM m x)=false:=by rw[GA,i1];rfl
      have e2:m.uT.any (fun x=>!Aj m x)=true:=by rw[GA,hx2];rfl
      rw[e1] at HIt
      rw[e2] at HRu
      clear e1 e2 i1 hx2 hnb hSF
      go_wp2_with (first
       | (go_at_call 55;refine HIt.out.mono ?_;rintro e w3 ⟨rfl,hb3⟩;have hW3:=hWm.grow hb3;obtain⟨c0,c1,c2,c3,c4,c5,c6,c7,c8,c9,c10⟩:=MB.cells hW3.blk;have hc:=hW3.lt;clear hb3)
       | (go_at_call 58;refine(HRu.out _ hW3).mono ?_;rintro e w4 ⟨rfl,hb4⟩))
      go_ret
      exact⟨rfl,(hW3.grow hb4).b⟩
theorem E5 (h:MH) (m:AC) (w:World) (d:MD w w.heap.size h m) (k1:m.rT.length≤h.rc) (k2:m.mT.length≤h.mc) (k3:m.lT.length≤h.lc) (ha:Asc w) :
    Calls Tryz.prog 23 #[.agg #[.slice h.s m.sT.length h.sc,.slice h.f m.fT.length h.fc,.slice h.r m.rT.length h.rc,.slice h.m m.mT.length h.mc,.slice h.l m.lT.length h.lc,.slice h.i m.iT.length h.ic,.int .i64 m.dT,.int .i64 m.oT,.int .i64 m.vT,.int .i64 m.aT,.slice h.u m.uT.length h.uc]] w fun e w'=>e=.returned (.bool (Ab m))∧Below w.heap.size w w':=by
 have hB:∀ b:Bool,b=false∨b=true:=fun b=>by cases b <;> simp
 rcases hB (Ab m) with hv|hv
 · have h2:=hv
   rw[Td] at h2
   rw[hv]
   rcases hB (Jr m) with hp|hp
   · exact Tg h m w d k1 k2 k3 hp
   · rw[hp,Bool.true_and] at h2
     exact SY h m w d k1 k2 k3 ha hp h2
 · rw[hv]
   exact D7 h m w d k1 k2 k3 ha hv
theorem K5 (h:MH) (m:AC) (n:Nat) (A:Option Addr) (c:Nat) (w:World) (d:MD w w.heap.size h m) (k1:m.rT.length≤h.rc) (k2:m.mT.length≤h.mc) (k3:m.lT.length≤h.lc) (ha:Asc w) (hv:Ab m=false) :
    Calls Tryz.prog 7 #[.agg #[.slice h.s m.sT.length h.sc,.slice h.f m.fT.length h.fc,.slice h.r m.rT.length h.rc,.slice h.m m.mT.length h.mc,.slice h.l m.lT.length h.lc,.slice h.i m.iT.length h.ic,.int .i64 m.dT,.int .i64 m.oT,.int .i64 m.vT,.int .i64 m.aT,.slice h.u m.uT.length h.uc],.slice A n c] w (Br w (.slice none 0 0)):=by
 have hb:=(Below.refl w.heap.size w).alloc (Nat.le_refl _) (.cells #[.slice h.s m.sT.length h.sc,.slice h.f m.fT.length h.fc,.slice h.r m.rT.length h.rc,.slice h.m m.mT.length h.mc,.slice h.l m.lT.length h.lc,.slice h.i m.iT.length h.ic,.int .i64 m.dT,.int .i64 m.oT,.int .i64 m.vT,.int .i64 m.aT,.slice h.u m.uT.length h.uc] 29)
 have HB:=hide hb
 have HV:=hide (E5 h m _ (d.grow hb) k1 k2 k3 (ha.below (Nat.le_refl _) hb))
 rw[hv] at HV
 clear hb d k1 k2 k3 ha hv
 go_enter Tryz.func7,Tryz.ntmps7
 go_wp2_with (go_at_call 23;refine HV.out.mono ?_;rintro e w1 ⟨rfl,hb1⟩;have HB1:=hide (HB.out.trans (hb1.mono HB.out.size));clear hb1)
 go_ret
 exact⟨rfl,HB1.out⟩
theorem MZ (h:MH) (m:AC) (n:Nat) (A:Option Addr) (c:Nat) (w:World) (d:MD w w.heap.size h m) (k1:m.rT.length≤h.rc) (k2:m.mT.length≤h.mc) (k3:m.lT.length≤h.lc) (ha:Asc w) (hv:Ab m=false) :
    Calls Tryz.prog 8 #[.agg #[.slice h.s m.sT.length h.sc,.slice h.f m.fT.length h.fc,.slice h.r m.rT.length h.rc,.slice h.m m.mT.length h.mc,.slice h.l m.lT.length h.lc,.slice h.i m.iT.length h.ic,.int .i64 m.dT,.int .i64 m.oT,.int .i64 m.vT,.int .i64 m.aT,.slice h.u m.uT.length h.uc],.slice A n c] w (Br w (.slice none 0 0)):=by
 have hb:=(Below.refl w.heap.size w).alloc (Nat.le_refl _) (.cells #[.slice h.s m.sT.length h.sc,.slice h.f m.fT.length h.fc,.slice h.r m.rT.length h.rc,.slice h.m m.mT.length h.mc,.slice h.l m.lT.length h.lc,.slice h.i m.iT.length h.ic,.int .i64 m.dT,.int .i64 m.oT,.int .i64 m.vT,.int .i64 m.aT,.slice h.u m.uT.length h.uc] 29)
 have HB:=hide hb
 have HV:=hide (E5 h m _ (d.grow hb) k1 k2 k3 (ha.below (Nat.le_refl _) hb))
 rw[hv] at HV
 clear hb d k1 k2 k3 ha hv
 go_enter Tryz.func8,Tryz.ntmps8
 go_wp2_with (go_at_call 23;refine HV.out.mono ?_;rintro e w1 ⟨rfl,hb1⟩;have HB1:=hide (HB.out.trans (hb1.mono HB.out.size));clear hb1)
 go_ret
 exact⟨rfl,HB1.out⟩
theorem Oa (h:MH) (m:AC) (n:Nat) (A:Option Addr) (c:Nat) (w:World) (d:MD w w.heap.size h m) (k1:m.rT.length≤h.rc) (k2:m.mT.length≤h.mc) (k3:m.lT.length≤h.lc) (ha:Asc w) (hv:Ab m=false) :
    Calls Tryz.prog 11 #[.agg #[.slice h.s m.sT.length h.sc,.slice h.f m.fT.length h.fc,.slice h.r m.rT.length h.rc,.slice h.m m.mT.length h.mc,.slice h.l m.lT.length h.lc,.slice h.i m.iT.length h.ic,.int .i64 m.dT,.int .i64 m.oT,.int .i64 m.vT,.int .i64 m.aT,.slice h.u m.uT.length h.uc],.slice A n c] w (Br w (.slice none 0 0)):=by
 have hb:=((Below.refl w.heap.size w).alloc (Nat.le_refl _) (.cells #[.slice h.s m.sT.length h.sc,.slice h.f m.fT.length h.fc,.slice h.r m.rT.length h.rc,.slice h.m m.mT.length h.mc,.slice h.l m.lT.length h.lc,.slice h.i m.iT.length h.ic,.int .i64 m.dT,.int .i64 m.oT,.int .i64 m.vT,.int .i64 m.aT,.slice h.u m.uT.length h.uc] 29)).alloc (by simp) (.cells #[.slice A n c] 30)
 have HB:=hide hb
 have HV:=hide (E5 h m _ (d.grow hb) k1 k2 k3 (ha.below (Nat.le_refl _) hb))
 rw[hv] at HV
 clear hb d k1 k2 k3 ha hv
 go_enter Tryz.func11,Tryz.ntmps11
 go_wp2_with (go_at_call 23;refine HV.out.mono ?_;rintro e w1 ⟨rfl,hb1⟩;have HB1:=hide (HB.out.trans (hb1.mono HB.out.size));clear hb1)
 go_ret
 exact⟨rfl,HB1.out⟩
theorem Pe (h:MH) (m:AC) (n:Nat) (A:Option Addr) (c:Nat) (item:Int) (w:World) (d:MD w w.heap.size h m) (k1:m.rT.length≤h.rc) (k2:m.mT.length≤h.mc) (k3:m.lT.length≤h.lc) (ha:Asc w) (hv:Ab m=false) :
    Calls Tryz.prog 10 #[.agg #[.slice h.s m.sT.length h.sc,.slice h.f m.fT.length h.fc,.slice h.r m.rT.length h.rc,.slice h.m m.mT.length h.mc,.slice h.l m.lT.length h.lc,.slice h.i m.iT.length h.ic,.int .i64 m.dT,.int .i64 m.oT,.int .i64 m.vT,.int .i64 m.aT,.slice h.u m.uT.length h.uc],.slice A n c,.int .i64 item] w (Br w (.int .i64 0)):=by
 have hb:=(((Below.refl w.heap.size w).alloc (Nat.le_refl _) (.cells #[.slice h.s m.sT.length h.sc,.slice h.f m.fT.length h.fc,.slice h.r m.rT.length h.rc,.slice h.m m.mT.length h.mc,.slice h.l m.lT.length h.lc,.slice h.i m.iT.length h.ic,.int .i64 m.dT,.int .i64 m.oT,.int .i64 m.vT,.int .i64 m.aT,.slice h.u m.uT.length h.uc] 29)).alloc (by simp) (.cells #[.slice A n c] 30)).alloc (by simp;omega) (.cells #[.int .i64 item] 3)
 have HB:=hide hb
 have HV:=hide (E5 h m _ (d.grow hb) k1 k2 k3 (ha.below (Nat.le_refl _) hb))
 rw[hv] at HV
 clear hb d k1 k2 k3 ha hv
 go_enter Tryz.func10,Tryz.ntmps10
 go_wp2_with (go_at_call 23;refine HV.out.mono ?_;rintro e w1 ⟨rfl,hb1⟩;have HB1:=hide (HB.out.trans (hb1.mono HB.out.size));clear hb1)
 go_ret
 exact⟨rfl,HB1.out⟩
theorem Ra (h:MH) (m:AC) (l:List EvM) (A:Option Addr) (c:Nat) (w:World) (d:MD w w.heap.size h m) (k1:m.rT.length≤h.rc) (k2:m.mT.length≤h.mc) (k3:m.lT.length≤h.lc) (ha:Asc w) (hv:Ab m=false)
    (hE:Rows BD 22 w w.heap.size A l) (hl:l.length≤1000) :
    Calls Tryz.prog 9 #[.agg #[.slice h.s m.sT.length h.sc,.slice h.f m.fT.length h.fc,.slice h.r m.rT.length h.rc,.slice h.m m.mT.length h.mc,.slice h.l m.lT.length h.lc,.slice h.i m.iT.length h.ic,.int .i64 m.dT,.int .i64 m.oT,.int .i64 m.vT,.int .i64 m.aT,.slice h.u m.uT.length h.uc],.slice A l.length c] w (Br w (.slice none 0 0)):=by
 have hb:=(Below.refl w.heap.size w).alloc (Nat.le_refl _) (.cells #[.slice h.s m.sT.length h.sc,.slice h.f m.fT.length h.fc,.slice h.r m.rT.length h.rc,.slice h.m m.mT.length h.mc,.slice h.l m.lT.length h.lc,.slice h.i m.iT.length h.ic,.int .i64 m.dT,.int .i64 m.oT,.int .i64 m.vT,.int .i64 m.aT,.slice h.u m.uT.length h.uc] 29)
 have HB:=hide hb
 have HM0:=hide (AB.new w 29 #[.slice h.s m.sT.length h.sc,.slice h.f m.fT.length h.fc,.slice h.r m.rT.length h.rc,.slice h.m m.mT.length h.mc,.slice h.l m.lT.length h.lc,.slice h.i m.iT.length h.ic,.int .i64 m.dT,.int .i64 m.oT,.int .i64 m.vT,.int .i64 m.aT,.slice h.u m.uT.length h.uc])
 have HDA:=hide (EU A c l _ (by omega) (hE.grow hb))
 have HV:=hide (fun W (hW:Below w.heap.size w W)=>E5 h m W (d.grow hW) k1 k2 k3 (ha.below (Nat.le_refl _) hW))
 rw[hv] at HV
 obtain⟨dk,hdk2⟩:∃ dk,dk=BV l:=⟨_,rfl⟩
 rw[← hdk2] at HDA
 clear hb d k1 k2 k3 ha hv hE hdk2
 go_enter Tryz.func9,Tryz.ntmps9
 go_wp2_with (first
  | (go_at_call 30;refine HDA.out.mono ?_;rintro e w1 ⟨rfl,hb1⟩;have HB1:=hide (HB.out.trans (hb1.mono HB.out.size));have hm1:=HM0.out.below hb1 (by simp);obtain⟨a0,a1,a2,a3,a4,a5,a6,a7,a8,a9,a10⟩:=MB.cells hm1;have al:=hm1.lt;have HVV:=hide (HV.out w1 HB1.out);clear hb1 hm1)
  | (go_at_call 23;refine HVV.out.mono ?_;rintro e w2 ⟨rfl,hb2⟩;have HB2:=hide (HB1.out.trans (hb2.mono HB1.out.size));clear hb2))
 go_ret
 exact⟨rfl,HB2.out⟩
end Go.Proofs.YtfemlajeomohhaaGreatDoor
