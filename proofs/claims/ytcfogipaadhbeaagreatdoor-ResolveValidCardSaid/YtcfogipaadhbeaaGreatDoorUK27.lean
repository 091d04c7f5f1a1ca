/- A part of the claim: see its last text. -/
import Derived.Test.YtcfogipaadhbeaaGreatDoorUK22
import Derived.Test.YtcfogipaadhbeaaGreatDoorUK26
import Derived.Test.YtcfogipaadhbeaaGreatDoorUK21

set_option maxRecDepth 100000
set_option maxHeartbeats 16000000
namespace Go.Proofs.YtcfogipaadhbeaaGreatDoor
open Go Go.RowKit Go.Proofs
theorem two_any (w : World) (c1 c2 : Array Value) (t1 t2 : TypeId) : Below w.heap.size w ((w.alloc (.cells c1 t1)).alloc (.cells c2 t2)) := ((Below.refl _ _).alloc (Nat.le_refl _) _).alloc (by simp) _
theorem two_boxes (w : World) (h : MH) (m : Mod) (T : TypeId) (cs : Array Value) : Below w.heap.size w ((w.alloc (.cells #[.slice h.s m.sT.length h.sc, .slice h.f m.fT.length h.fc, .slice h.r m.rT.length h.rc, .slice h.m m.mT.length h.mc, .slice h.l m.lT.length h.lc, .slice h.i m.iT.length h.ic, .int .i64 m.dT, .int .i64 m.oT, .int .i64 m.vT, .int .i64 m.aT, .slice h.u m.uT.length h.uc] 32)).alloc (.cells cs T)) := ((Below.refl _ _).alloc (Nat.le_refl _) _).alloc (by simp) _
theorem item15_ref (h : MH) (m : Mod) (x : ItemM) (A : Option Addr) (c : Nat) (w : World) (hl : x.on.length ≤ 9223372036854775807) (hI : Ints w w.heap.size A x.on) :
    Calls Tryz.prog 43 #[.agg #[.slice h.s m.sT.length h.sc, .slice h.f m.fT.length h.fc, .slice h.r m.rT.length h.rc, .slice h.m m.mT.length h.mc, .slice h.l m.lT.length h.lc, .slice h.i m.iT.length h.ic, .int .i64 m.dT, .int .i64 m.oT, .int .i64 m.vT, .int .i64 m.aT, .slice h.u m.uT.length h.uc], .agg #[.string x.name, .int .i64 x.kind, .int .i64 x.count, .int .i64 x.load, .int .i64 x.size, .int .i64 x.share, .slice A x.on.length c]] w fun e w' => e = .returned (.bool (itemOk m x)) ∧ Below w.heap.size w w' := by
 have hBW := two_boxes w h m 49 #[.string x.name, .int .i64 x.kind, .int .i64 x.count, .int .i64 x.load, .int .i64 x.size, .int .i64 x.share, .slice A x.on.length c]
 have HI := hide (hI.grow hBW)
 have HX := hide (Blk.new (w.alloc (.cells #[.slice h.s m.sT.length h.sc, .slice h.f m.fT.length h.fc, .slice h.r m.rT.length h.rc, .slice h.m m.mT.length h.mc, .slice h.l m.lT.length h.lc, .slice h.i m.iT.length h.ic, .int .i64 m.dT, .int .i64 m.oT, .int .i64 m.vT, .int .i64 m.aT, .slice h.u m.uT.length h.uc] 32)) 49 #[.string x.name, .int .i64 x.kind, .int .i64 x.count, .int .i64 x.load, .int .i64 x.size, .int .i64 x.share, .slice A x.on.length c])
 have HB := hide hBW
 clear hBW
 go_enter Tryz.func43, Tryz.ntmps43
 go_wp2_with (first
  | (go_at_call 91; refine (machines15_ref h m A c x.on _ hl HI.out).mono ?_; rintro e w1 ⟨rfl, hb1⟩
     have hx := HX.out.below hb1 (by simp)
     have hB1 := hide (HB.out.trans (hb1.mono HB.out.size))
     have y1 := hx.cell 1
     have y2 := hx.cell 2
     have y3 := hx.cell 3
     have y4 := hx.cell 4
     have y5 := hx.cell 5
     have y6 := hx.cell 6
     have ylt := hx.lt
     simp at y1 y2 y3 y4 y5 y6 ylt
     clear hx hb1)
  | (go_at_call 46; refine (within_ref _ _ _ _).mono ?_; rintro e w' ⟨rfl, rfl⟩))
 all_goals
  go_ret
  refine ⟨ret_congr (congrArg Value.bool ?_), hB1.out⟩
  simp_all [itemOk, itemKindB]
  try first | omega | rfl | grind
theorem rule15_0 (h : MH) (m : Mod) (it ot n bY : Int) (al : Bool) (A : Option Addr) (c : Nat) (ms : List Int) (w : World) (d : MD w w.heap.size h m) (_hl : ms.length ≤ 9223372036854775807) (_hI : Ints w w.heap.size A ms) :
    Calls Tryz.prog 44 #[.agg #[.slice h.s m.sT.length h.sc, .slice h.f m.fT.length h.fc, .slice h.r m.rT.length h.rc, .slice h.m m.mT.length h.mc, .slice h.l m.lT.length h.lc, .slice h.i m.iT.length h.ic, .int .i64 m.dT, .int .i64 m.oT, .int .i64 m.vT, .int .i64 m.aT, .slice h.u m.uT.length h.uc], .agg #[.int .i64 0, .int .i64 it, .int .i64 ot, .int .i64 n, .int .i64 bY, .bool al, .slice A ms.length c]] w fun e w' => e = .returned (.bool (ruleOk m ⟨0, it, ot, n, bY, al, ms⟩)) ∧ Below w.heap.size w w' := by
 have HB := hide (two_boxes w h m 62 #[.int .i64 0, .int .i64 it, .int .i64 ot, .int .i64 n, .int .i64 bY, .bool al, .slice A ms.length c])
 cases e0 : exI it m.iT.length
 · have HR := hide (show ruleOk m ⟨0, it, ot, n, bY, al, ms⟩ = false by simp [ruleOk, e0])
   clear d
   go_enter Tryz.func44, Tryz.ntmps44
   go_wp2_with (first
    | (go_at_call 45; refine (exists_ref _ _ _).mono ?_; rintro e w2 ⟨rfl, rfl⟩)
    | (go_at_call 46; refine (within_ref _ _ _ _).mono ?_; rintro e w2 ⟨rfl, rfl⟩))
   all_goals
    go_ret
    exact ⟨ret_congr (by rw [HR.out]; rfl), two_any _ _ _ _ _⟩
 · have hit : 1 ≤ it ∧ it ≤ (m.iT.length : Int) := by simpa [exI] using e0
   obtain ⟨j, hj, rfl⟩ : ∃ j : Nat, j < m.iT.length ∧ it = (j : Int) + 1 := ⟨(it - 1).toNat, by omega, by omega⟩
   have hil := d.il
   obtain ⟨b, off, A2, c2, hA, hb, x0, x1, x2, x3, x4, x5, x6, _⟩ := d.dI.item hj
   clear x0 x2 x3 x4 x5 x6
   have hw1 : IntKind.i64.wrap ((j : Int) + 1 - 1) = (j : Int) := by rw [IntWalk.i64_in _ (by omega)]; omega
   have hjI : (j : Int) < (m.iT.length : Int) := by omega
   have hb1 : b < w.heap.size + 1 := by omega
   have HG := hide (show m.iT[((j : Int) + 1 - 1).toNat]? = some m.iT[j] by simp [hj])
   have HE0 := hide e0
   clear hit
   go_enter Tryz.func44, Tryz.ntmps44
   go_wp2_with (first
    | (go_at_call 45; refine (exists_ref _ _ _).mono ?_; rintro e w2 ⟨rfl, rfl⟩)
    | (go_at_call 46; refine (within_ref _ _ _ _).mono ?_; rintro e w2 ⟨rfl, rfl⟩))
   all_goals
    go_ret
    refine ⟨ret_congr (congrArg Value.bool ?_), two_any _ _ _ _ _⟩
    have hg := HG.out
    have he := HE0.out
    simp_all [ruleOk, noList]
    try first | rfl | grind
theorem rule15_1 (h : MH) (m : Mod) (it ot n bY : Int) (al : Bool) (A : Option Addr) (c : Nat) (ms : List Int) (w : World) (_d : MD w w.heap.size h m) (_hl : ms.length ≤ 9223372036854775807) (_hI : Ints w w.heap.size A ms) :
    Calls Tryz.prog 44 #[.agg #[.slice h.s m.sT.length h.sc, .slice h.f m.fT.length h.fc, .slice h.r m.rT.length h.rc, .slice h.m m.mT.length h.mc, .slice h.l m.lT.length h.lc, .slice h.i m.iT.length h.ic, .int .i64 m.dT, .int .i64 m.oT, .int .i64 m.vT, .int .i64 m.aT, .slice h.u m.uT.length h.uc], .agg #[.int .i64 1, .int .i64 it, .int .i64 ot, .int .i64 n, .int .i64 bY, .bool al, .slice A ms.length c]] w fun e w' => e = .returned (.bool (ruleOk m ⟨1, it, ot, n, bY, al, ms⟩)) ∧ Below w.heap.size w w' := by
 have HB := hide (two_boxes w h m 62 #[.int .i64 1, .int .i64 it, .int .i64 ot, .int .i64 n, .int .i64 bY, .bool al, .slice A ms.length c])
 go_enter Tryz.func44, Tryz.ntmps44
 go_wp2_with (first
  | (go_at_call 45; refine (exists_ref _ _ _).mono ?_; rintro e w2 ⟨rfl, rfl⟩)
  | (go_at_call 46; refine (within_ref _ _ _ _).mono ?_; rintro e w2 ⟨rfl, rfl⟩))
 all_goals
  go_ret
  refine ⟨ret_congr (congrArg Value.bool ?_), by first | exact hB1.out | exact two_any _ _ _ _ _⟩
  simp_all [ruleOk, noList]
  try first | rfl | grind
theorem rule15_2 (h : MH) (m : Mod) (it ot n bY : Int) (al : Bool) (A : Option Addr) (c : Nat) (ms : List Int) (w : World) (_d : MD w w.heap.size h m) (_hl : ms.length ≤ 9223372036854775807) (_hI : Ints w w.heap.size A ms) :
    Calls Tryz.prog 44 #[.agg #[.slice h.s m.sT.length h.sc, .slice h.f m.fT.length h.fc, .slice h.r m.rT.length h.rc, .slice h.m m.mT.length h.mc, .slice h.l m.lT.length h.lc, .slice h.i m.iT.length h.ic, .int .i64 m.dT, .int .i64 m.oT, .int .i64 m.vT, .int .i64 m.aT, .slice h.u m.uT.length h.uc], .agg #[.int .i64 2, .int .i64 it, .int .i64 ot, .int .i64 n, .int .i64 bY, .bool al, .slice A ms.length c]] w fun e w' => e = .returned (.bool (ruleOk m ⟨2, it, ot, n, bY, al, ms⟩)) ∧ Below w.heap.size w w' := by
 have HB := hide (two_boxes w h m 62 #[.int .i64 2, .int .i64 it, .int .i64 ot, .int .i64 n, .int .i64 bY, .bool al, .slice A ms.length c])
 go_enter Tryz.func44, Tryz.ntmps44
 go_wp2_with (first
  | (go_at_call 45; refine (exists_ref _ _ _).mono ?_; rintro e w2 ⟨rfl, rfl⟩)
  | (go_at_call 46; refine (within_ref _ _ _ _).mono ?_; rintro e w2 ⟨rfl, rfl⟩))
 all_goals
  go_ret
  refine ⟨ret_congr (congrArg Value.bool ?_), by first | exact hB1.out | exact two_any _ _ _ _ _⟩
  simp_all [ruleOk, noList]
  try first | rfl | grind
theorem rule15_3 (h : MH) (m : Mod) (it ot n bY : Int) (al : Bool) (A : Option Addr) (c : Nat) (ms : List Int) (w : World) (_d : MD w w.heap.size h m) (hl : ms.length ≤ 9223372036854775807) (hI : Ints w w.heap.size A ms) :
    Calls Tryz.prog 44 #[.agg #[.slice h.s m.sT.length h.sc, .slice h.f m.fT.length h.fc, .slice h.r m.rT.length h.rc, .slice h.m m.mT.length h.mc, .slice h.l m.lT.length h.lc, .slice h.i m.iT.length h.ic, .int .i64 m.dT, .int .i64 m.oT, .int .i64 m.vT, .int .i64 m.aT, .slice h.u m.uT.length h.uc], .agg #[.int .i64 3, .int .i64 it, .int .i64 ot, .int .i64 n, .int .i64 bY, .bool al, .slice A ms.length c]] w fun e w' => e = .returned (.bool (ruleOk m ⟨3, it, ot, n, bY, al, ms⟩)) ∧ Below w.heap.size w w' := by
 have HB := hide (two_boxes w h m 62 #[.int .i64 3, .int .i64 it, .int .i64 ot, .int .i64 n, .int .i64 bY, .bool al, .slice A ms.length c])
 go_enter Tryz.func44, Tryz.ntmps44
 go_wp2_with (first
  | (go_at_call 91; refine (machines15_ref h m A c ms _ hl (hI.grow (two_any _ _ _ _ _))).mono ?_; rintro e w1 ⟨rfl, hb1⟩; have hx := (Blk.new (w.alloc _) 62 _).below hb1 (by simp); have hB1 := hide ((two_any _ _ _ _ _).trans (hb1.mono (by simp; omega))); have y2 := hx.cell 2; have y3 := hx.cell 3; have y4 := hx.cell 4; have y5 := hx.cell 5; have ylt := hx.lt; simp at y2 y3 y4 y5 ylt; clear hx hb1)
  | (go_at_call 45; refine (exists_ref _ _ _).mono ?_; rintro e w2 ⟨rfl, rfl⟩)
  | (go_at_call 46; refine (within_ref _ _ _ _).mono ?_; rintro e w2 ⟨rfl, rfl⟩))
 all_goals
  go_ret
  refine ⟨ret_congr (congrArg Value.bool ?_), by first | exact hB1.out | exact two_any _ _ _ _ _⟩
  simp_all [ruleOk]
  try first | rfl | grind
theorem rule15_4 (h : MH) (m : Mod) (it ot n bY : Int) (al : Bool) (A : Option Addr) (c : Nat) (ms : List Int) (w : World) (_d : MD w w.heap.size h m) (_hl : ms.length ≤ 9223372036854775807) (_hI : Ints w w.heap.size A ms) :
    Calls Tryz.prog 44 #[.agg #[.slice h.s m.sT.length h.sc, .slice h.f m.fT.length h.fc, .slice h.r m.rT.length h.rc, .slice h.m m.mT.length h.mc, .slice h.l m.lT.length h.lc, .slice h.i m.iT.length h.ic, .int .i64 m.dT, .int .i64 m.oT, .int .i64 m.vT, .int .i64 m.aT, .slice h.u m.uT.length h.uc], .agg #[.int .i64 4, .int .i64 it, .int .i64 ot, .int .i64 n, .int .i64 bY, .bool al, .slice A ms.length c]] w fun e w' => e = .returned (.bool (ruleOk m ⟨4, it, ot, n, bY, al, ms⟩)) ∧ Below w.heap.size w w' := by
 have HB := hide (two_boxes w h m 62 #[.int .i64 4, .int .i64 it, .int .i64 ot, .int .i64 n, .int .i64 bY, .bool al, .slice A ms.length c])
 go_enter Tryz.func44, Tryz.ntmps44
 go_wp2_with (first
  | (go_at_call 45; refine (exists_ref _ _ _).mono ?_; rintro e w2 ⟨rfl, rfl⟩)
  | (go_at_call 46; refine (within_ref _ _ _ _).mono ?_; rintro e w2 ⟨rfl, rfl⟩))
 all_goals
  go_ret
  refine ⟨ret_congr (congrArg Value.bool ?_), by first | exact hB1.out | exact two_any _ _ _ _ _⟩
  simp_all [ruleOk, noList]
  try first | rfl | grind
theorem rule15_5 (h : MH) (m : Mod) (it ot n bY : Int) (al : Bool) (A : Option Addr) (c : Nat) (ms : List Int) (w : World) (_d : MD w w.heap.size h m) (_hl : ms.length ≤ 9223372036854775807) (_hI : Ints w w.heap.size A ms) :
    Calls Tryz.prog 44 #[.agg #[.slice h.s m.sT.length h.sc, .slice h.f m.fT.length h.fc, .slice h.r m.rT.length h.rc, .slice h.m m.mT.length h.mc, .slice h.l m.lT.length h.lc, .slice h.i m.iT.length h.ic, .int .i64 m.dT, .int .i64 m.oT, .int .i64 m.vT, .int .i64 m.aT, .slice h.u m.uT.length h.uc], .agg #[.int .i64 5, .int .i64 it, .int .i64 ot, .int .i64 n, .int .i64 bY, .bool al, .slice A ms.length c]] w fun e w' => e = .returned (.bool (ruleOk m ⟨5, it, ot, n, bY, al, ms⟩)) ∧ Below w.heap.size w w' := by
 have HB := hide (two_boxes w h m 62 #[.int .i64 5, .int .i64 it, .int .i64 ot, .int .i64 n, .int .i64 bY, .bool al, .slice A ms.length c])
 go_enter Tryz.func44, Tryz.ntmps44
 go_wp2_with (first
  | (go_at_call 45; refine (exists_ref _ _ _).mono ?_; rintro e w2 ⟨rfl, rfl⟩)
  | (go_at_call 46; refine (within_ref _ _ _ _).mono ?_; rintro e w2 ⟨rfl, rfl⟩))
 all_goals
  go_ret
  refine ⟨ret_congr (congrArg Value.bool ?_), by first | exact hB1.out | exact two_any _ _ _ _ _⟩
  simp_all [ruleOk, noList]
  try first | rfl | grind
theorem rule15_6 (h : MH) (m : Mod) (it ot n bY : Int) (al : Bool) (A : Option Addr) (c : Nat) (ms : List Int) (w : World) (_d : MD w w.heap.size h m) (_hl : ms.length ≤ 9223372036854775807) (_hI : Ints w w.heap.size A ms) :
    Calls Tryz.prog 44 #[.agg #[.slice h.s m.sT.length h.sc, .slice h.f m.fT.length h.fc, .slice h.r m.rT.length h.rc, .slice h.m m.mT.length h.mc, .slice h.l m.lT.length h.lc, .slice h.i m.iT.length h.ic, .int .i64 m.dT, .int .i64 m.oT, .int .i64 m.vT, .int .i64 m.aT, .slice h.u m.uT.length h.uc], .agg #[.int .i64 6, .int .i64 it, .int .i64 ot, .int .i64 n, .int .i64 bY, .bool al, .slice A ms.length c]] w fun e w' => e = .returned (.bool (ruleOk m ⟨6, it, ot, n, bY, al, ms⟩)) ∧ Below w.heap.size w w' := by
 have HB := hide (two_boxes w h m 62 #[.int .i64 6, .int .i64 it, .int .i64 ot, .int .i64 n, .int .i64 bY, .bool al, .slice A ms.length c])
 go_enter Tryz.func44, Tryz.ntmps44
 go_wp2_with (first
  | (go_at_call 45; refine (exists_ref _ _ _).mono ?_; rintro e w2 ⟨rfl, rfl⟩)
  | (go_at_call 46; refine (within_ref _ _ _ _).mono ?_; rintro e w2 ⟨rfl, rfl⟩))
 all_goals
  go_ret
  refine ⟨ret_congr (congrArg Value.bool ?_), by first | exact hB1.out | exact two_any _ _ _ _ _⟩
  simp_all [ruleOk, noList]
  try first | rfl | grind
theorem rule15_no (h : MH) (m : Mod) (kd : Int) (hn : ¬ (0 ≤ kd ∧ kd ≤ 6)) (it ot n bY : Int) (al : Bool) (A : Option Addr) (c : Nat) (ms : List Int) (w : World) (_d : MD w w.heap.size h m) (_hl : ms.length ≤ 9223372036854775807) (_hI : Ints w w.heap.size A ms) :
    Calls Tryz.prog 44 #[.agg #[.slice h.s m.sT.length h.sc, .slice h.f m.fT.length h.fc, .slice h.r m.rT.length h.rc, .slice h.m m.mT.length h.mc, .slice h.l m.lT.length h.lc, .slice h.i m.iT.length h.ic, .int .i64 m.dT, .int .i64 m.oT, .int .i64 m.vT, .int .i64 m.aT, .slice h.u m.uT.length h.uc], .agg #[.int .i64 kd, .int .i64 it, .int .i64 ot, .int .i64 n, .int .i64 bY, .bool al, .slice A ms.length c]] w fun e w' => e = .returned (.bool (ruleOk m ⟨kd, it, ot, n, bY, al, ms⟩)) ∧ Below w.heap.size w w' := by
 have HB := hide (two_boxes w h m 62 #[.int .i64 kd, .int .i64 it, .int .i64 ot, .int .i64 n, .int .i64 bY, .bool al, .slice A ms.length c])
 have n0 : (kd == 0) = false := by simp; omega
 have n1 : (kd == 1) = false := by simp; omega
 have n2 : (kd == 2) = false := by simp; omega
 have n3 : (kd == 3) = false := by simp; omega
 have n4 : (kd == 4) = false := by simp; omega
 have n5 : (kd == 5) = false := by simp; omega
 have n6 : (kd == 6) = false := by simp; omega
 have HR := hide (show ruleOk m ⟨kd, it, ot, n, bY, al, ms⟩ = false by unfold ruleOk; simp only []; repeat rw [if_neg (by omega)])
 clear hn
 go_enter Tryz.func44, Tryz.ntmps44
 go_wp2_with (first
  | (go_at_call 45; refine (exists_ref _ _ _).mono ?_; rintro e w2 ⟨rfl, rfl⟩)
  | (go_at_call 46; refine (within_ref _ _ _ _).mono ?_; rintro e w2 ⟨rfl, rfl⟩))
 all_goals
  go_ret
  refine ⟨ret_congr (congrArg Value.bool ?_), by first | exact hB1.out | exact two_any _ _ _ _ _⟩
  simp only [HR.out]
theorem rule15_ref (h : MH) (m : Mod) (x : RuleM) (A : Option Addr) (c : Nat) (w : World) (d : MD w w.heap.size h m) (hl : x.machines.length ≤ 9223372036854775807) (hI : Ints w w.heap.size A x.machines) :
    Calls Tryz.prog 44 #[.agg #[.slice h.s m.sT.length h.sc, .slice h.f m.fT.length h.fc, .slice h.r m.rT.length h.rc, .slice h.m m.mT.length h.mc, .slice h.l m.lT.length h.lc, .slice h.i m.iT.length h.ic, .int .i64 m.dT, .int .i64 m.oT, .int .i64 m.vT, .int .i64 m.aT, .slice h.u m.uT.length h.uc], .agg #[.int .i64 x.kind, .int .i64 x.item, .int .i64 x.other, .int .i64 x.n, .int .i64 x.by_, .bool x.always, .slice A x.machines.length c]] w fun e w' => e = .returned (.bool (ruleOk m x)) ∧ Below w.heap.size w w' := by
 obtain ⟨kd, it, ot, n, bY, al, ms⟩ := x
 by_cases hk : 0 ≤ kd ∧ kd ≤ 6
 · have : kd = 0 ∨ kd = 1 ∨ kd = 2 ∨ kd = 3 ∨ kd = 4 ∨ kd = 5 ∨ kd = 6 := by omega
   rcases this with rfl | rfl | rfl | rfl | rfl | rfl | rfl
   · exact rule15_0 h m it ot n bY al A c ms w d hl hI
   · exact rule15_1 h m it ot n bY al A c ms w d hl hI
   · exact rule15_2 h m it ot n bY al A c ms w d hl hI
   · exact rule15_3 h m it ot n bY al A c ms w d hl hI
   · exact rule15_4 h m it ot n bY al A c ms w d hl hI
   · exact rule15_5 h m it ot n bY al A c ms w d hl hI
   · exact rule15_6 h m it ot n bY al A c ms w d hl hI
 · exact rule15_no h m kd hk it ot n bY al A c ms w d hl hI
theorem names_fit {w : World} {h : MH} {m : Mod} (d : MD w w.heap.size h m) : ∀ s ∈ nameList m, s.size ≤ 9223372036854775807 := by
 intro s hs
 simp only [nameList, List.mem_append, List.mem_map] at hs
 rcases hs with (((hs | hs) | ⟨x, hx, rfl⟩) | ⟨x, hx, rfl⟩) | ⟨x, hx, rfl⟩
 · exact d.sf _ hs
 · exact d.ff _ hs
 · obtain ⟨i, hi, rfl⟩ := List.getElem_of_mem hx
   obtain ⟨_, _, _, _, _, _, _, hz⟩ := d.dR.rack hi
   exact hz
 · obtain ⟨i, hi, rfl⟩ := List.getElem_of_mem hx
   obtain ⟨_, _, _, _, _, _, _, hz⟩ := d.dM.mach hi
   exact hz
 · obtain ⟨i, hi, rfl⟩ := List.getElem_of_mem hx
   obtain ⟨_, _, _, _, _, _, _, _, _, _, _, _, _, hz, _⟩ := d.dI.item hi
   exact hz
theorem valid_site {m : Mod} (h : siteB m = false) : validM m = false := by simp [validM, h]
theorem valid_items {m : Mod} (h : 8 < m.iT.length) : validM m = false := by simp [validM]; omega
theorem valid_rules {m : Mod} (h : 40 < m.uT.length) : validM m = false := by simp [validM]; omega
theorem valid_names {m : Mod} (h : namesB m = false) : validM m = false := by simp [validM, h]
theorem valid_item {m : Mod} {k : Nat} (hk : k < m.iT.length) (h : itemOk m m.iT[k] = false) : validM m = false := by simp [validM, all_false_at' hk h]
theorem valid_rule {m : Mod} {k : Nat} (hk : k < m.uT.length) (h : ruleOk m m.uT[k] = false) : validM m = false := by simp [validM, all_false_at' hk h]
theorem valid_rest {m : Mod} (h1 : siteB m = true) (h2 : ¬ 8 < m.iT.length) (h3 : ¬ 40 < m.uT.length) (h4 : namesB m = true) (h5 : m.iT.all (itemOk m) = true) (h6 : m.uT.all (ruleOk m) = true) : validM m = sizesB m := by
 simp only [validM, h1, h4, h5, h6]; simp; omega
theorem siteB_lens {m : Mod} (h : siteB m = true) : m.sT.length ≤ 100 ∧ m.fT.length ≤ 100 ∧ m.rT.length ≤ 100 ∧ m.mT.length ≤ 100 := by
 simp [siteB, exI] at h; omega
theorem valid15_ref (h : MH) (m : Mod) (w : World) (d : MD w w.heap.size h m) :
    Calls Tryz.prog 18 #[.agg #[.slice h.s m.sT.length h.sc, .slice h.f m.fT.length h.fc, .slice h.r m.rT.length h.rc, .slice h.m m.mT.length h.mc, .slice h.l m.lT.length h.lc, .slice h.i m.iT.length h.ic, .int .i64 m.dT, .int .i64 m.oT, .int .i64 m.vT, .int .i64 m.aT, .slice h.u m.uT.length h.uc]] w fun e w' => e = .returned (.bool (validM m)) ∧ Below w.heap.size w w' := by
 have hl5 := d.il
 have hl6 := d.ul
 have hl0 := d.sl
 have hfit := names_fit d
 have HW0 := hide (MW.start w h m)
 have D := hide d
 have hS := siteValid_ref h m (w.alloc (.cells #[.slice h.s m.sT.length h.sc, .slice h.f m.fT.length h.fc, .slice h.r m.rT.length h.rc, .slice h.m m.mT.length h.mc, .slice h.l m.lT.length h.lc, .slice h.i m.iT.length h.ic, .int .i64 m.dT, .int .i64 m.oT, .int .i64 m.vT, .int .i64 m.aT, .slice h.u m.uT.length h.uc] 32)) ((MW.start w h m).md d)
 clear d
 cases e1 : siteB m
 · have HV := hide (valid_site e1)
   rw [e1] at hS
   have HS := hide hS
   clear hS e1 hfit
   go_enter Tryz.func18, Tryz.ntmps18
   go_wp2_with (go_at_call 41; refine HS.out.mono ?_; rintro e w1 ⟨rfl, hb1⟩; have hW1 := HW0.out.grow hb1)
   go_ret
   exact ⟨ret_congr (by rw [HV.out]; rfl), hW1.b⟩
 rw [e1] at hS
 have HS := hide hS
 clear hS
 by_cases e2 : 8 < m.iT.length
 · have HV := hide (valid_items e2)
   clear e1 hfit
   go_enter Tryz.func18, Tryz.ntmps18
   go_wp2_with (go_at_call 41; refine HS.out.mono ?_; rintro e w1 ⟨rfl, hb1⟩; have hW1 := HW0.out.grow hb1; obtain ⟨a0, a1, a2, a3, a4, a5, a6, a7, a8, a9, a10⟩ := MB.cells hW1.blk; have ha := hW1.lt; clear hb1)
   go_ret
   exact ⟨ret_congr (by rw [HV.out]; rfl), hW1.b⟩
 by_cases e3 : 40 < m.uT.length
 · have HV := hide (valid_rules e3)
   clear e1 hfit
   go_enter Tryz.func18, Tryz.ntmps18
   go_wp2_with (go_at_call 41; refine HS.out.mono ?_; rintro e w1 ⟨rfl, hb1⟩; have hW1 := HW0.out.grow hb1; obtain ⟨a0, a1, a2, a3, a4, a5, a6, a7, a8, a9, a10⟩ := MB.cells hW1.blk; have ha := hW1.lt; clear hb1)
   go_ret
   exact ⟨ret_congr (by rw [HV.out]; rfl), hW1.b⟩
 obtain ⟨z1, z2, z3, z4⟩ := siteB_lens e1
 have HN := hide fun (W : World) (hW : MW w w.heap.size W h m) => namesB_ref h m W (hW.md D.out) z1 z2 z3 z4 (by omega) hfit
 clear hfit z1 z2 z3 z4
 cases e4 : namesB m
 · have HV := hide (valid_names e4)
   rw [e4] at HN
   clear e1 e4
   go_enter Tryz.func18, Tryz.ntmps18
   go_wp2_with (first
    | (go_at_call 41; refine HS.out.mono ?_; rintro e w1 ⟨rfl, hb1⟩; have hW1 := HW0.out.grow hb1; obtain ⟨a0, a1, a2, a3, a4, a5, a6, a7, a8, a9, a10⟩ := MB.cells hW1.blk; have ha := hW1.lt; clear hb1)
    | (go_at_call 42; refine (HN.out _ hW1).mono ?_; rintro e w2 ⟨rfl, hb2⟩; have hW2 := hW1.grow hb2))
   go_ret
   exact ⟨ret_congr (by rw [HV.out]; rfl), hW2.b⟩
 rw [e4] at HN
 have HR := hide fun h5 h6 => valid_rest e1 e2 e3 e4 h5 h6
 clear e1 e4
 go_enter Tryz.func18, Tryz.ntmps18
 go_wp2_with (first
  | (go_at_call 41; refine HS.out.mono ?_; rintro e w1 ⟨rfl, hb1⟩; have hW1 := HW0.out.grow hb1; obtain ⟨a0, a1, a2, a3, a4, a5, a6, a7, a8, a9, a10⟩ := MB.cells hW1.blk; have ha := hW1.lt; clear hb1)
  | (go_at_call 42; refine (HN.out _ hW1).mono ?_; rintro e w2 ⟨rfl, hb2⟩; have hW2 := hW1.grow hb2))
 have HW2 := hide hW2
 clear e2 e3 hW1 hW2 hb2 a0 a1 a2 a3 a4 a5 a6 a7 a8 a9 a10 HS HN
 go_loopw [3] (fun i wr => ∃ k : Nat, k ≤ m.iT.length ∧ i = .int .i64 k ∧ Hid (MW w w.heap.size wr h m) ∧ Hid (∀ j (hj : j < m.iT.length), j < k → itemOk m m.iT[j] = true)) (fun i _ => m.iT.length - (intOf i).toNat)
 case atStart => exact ⟨0, Nat.zero_le _, rfl, HW2, fun j hj h0 => absurd h0 (by omega)⟩
 case round =>
  clear HW2
  obtain ⟨k, hk, rfl, hW, hs⟩ := hrel
  obtain ⟨a0, a1, a2, a3, a4, a5, a6, a7, a8, a9, a10⟩ := MB.cells hW.out.blk
  have hlt0 := hW.out.lt
  by_cases hlt : k < m.iT.length
  · obtain ⟨b, off, A2, c2, hA, hb, x0, x1, x2, x3, x4, x5, x6, g1, g2, g3, gI⟩ := (hW.out.md D.out).dI.item hlt
    have hb1 := hide fun (n : Nat) => item15_ref { h with i := some ⟨b, off, none⟩ } m m.iT[k] A2 c2 (wr.drewN n) (by omega) (gI.grow (below_drawn (Below.refl _ _) n))
    have HC := hide (show Calls Tryz.prog 43 #[.agg #[.slice h.s m.sT.length h.sc, .slice h.f m.fT.length h.fc, .slice h.r m.rT.length h.rc, .slice h.m m.mT.length h.mc, .slice h.l m.lT.length h.lc, .slice (some ⟨b, off, none⟩) m.iT.length h.ic, .int .i64 m.dT, .int .i64 m.oT, .int .i64 m.vT, .int .i64 m.aT, .slice h.u m.uT.length h.uc], .agg #[.string m.iT[k].name, .int .i64 m.iT[k].kind, .int .i64 m.iT[k].count, .int .i64 m.iT[k].load, .int .i64 m.iT[k].size, .int .i64 m.iT[k].share, .slice A2 m.iT[k].on.length c2]] wr.drew (fun e w' => e = .returned (.bool (itemOk m m.iT[k])) ∧ Below wr.drew.heap.size wr.drew w') from hb1.out 1)
    rw [hA] at a5
    have hltI : (k : Int) < (m.iT.length : Int) := by omega
    clear hA hb1 gI
    cases e5 : itemOk m m.iT[k]
    · have HV := hide (valid_item hlt e5)
      rw [e5] at HC
      go_wp2_with fail
      go_region_with ((with_reducible refine HC.out.mono ?_); rintro e w3 ⟨rfl, hb3⟩)
      all_goals
       go_wp2_with fail
       go_ret
       exact ⟨ret_congr (by rw [HV.out]; rfl), (hW.out.drew.grow hb3).b⟩
    · rw [e5] at HC
      have HK := hide e5
      clear e5
      go_wp2_with fail
      go_region_with ((with_reducible refine HC.out.mono ?_); rintro e w3 ⟨rfl, hb3⟩)
      all_goals
       go_wp2_with fail
       go_roundw
       case rel => exact ⟨k + 1, by omega, by go_num, hide (hW.out.drew.grow hb3), fun j hj h1 => by
        rcases Nat.lt_or_ge j k with h2 | h2
        · exact hs j hj h2
        · obtain rfl : j = k := by omega
          exact HK⟩
       case measure => simp [intOf]; omega
  · have HI := hide (show m.iT.all (itemOk m) = true from all_true_of' fun q hq => hs q hq (by omega))
    go_wp2_with fail
    clear a0 a1 a2 a3 a4 a5 a6 a7 a8 a9 a10 hs
    go_loopw [4] (fun i wr => ∃ k : Nat, k ≤ m.uT.length ∧ i = .int .i64 k ∧ Hid (MW w w.heap.size wr h m) ∧ Hid (∀ j (hj : j < m.uT.length), j < k → ruleOk m m.uT[j] = true)) (fun i _ => m.uT.length - (intOf i).toNat)
    case atStart => exact ⟨0, Nat.zero_le _, rfl, hW, fun j hj h0 => absurd h0 (by omega)⟩
    case round =>
     clear hW hlt0 hlt hk
     obtain ⟨k, hk, rfl, hW, hs⟩ := hrel
     obtain ⟨a0, a1, a2, a3, a4, a5, a6, a7, a8, a9, a10⟩ := MB.cells hW.out.blk
     have hlt0 := hW.out.lt
     by_cases hlt : k < m.uT.length
     · obtain ⟨b, off, A2, c2, hA, hb, x0, x1, x2, x3, x4, x5, x6, g2, g3, gI⟩ := (hW.out.md D.out).dU.rule hlt
       have hd2 : MD wr wr.heap.size { h with u := some ⟨b, off, none⟩ } m := by
        have hd := hW.out.md D.out
        have e : ({ h with u := some ⟨b, off, none⟩ } : MH) = h := by rw [← hA]
        rw [e]; exact hd
       have hb1 := hide fun (n : Nat) => rule15_ref { h with u := some ⟨b, off, none⟩ } m m.uT[k] A2 c2 (wr.drewN n) (hd2.grow (below_drawn (Below.refl _ _) n)) (by omega) (gI.grow (below_drawn (Below.refl _ _) n))
       have HC := hide (show Calls Tryz.prog 44 #[.agg #[.slice h.s m.sT.length h.sc, .slice h.f m.fT.length h.fc, .slice h.r m.rT.length h.rc, .slice h.m m.mT.length h.mc, .slice h.l m.lT.length h.lc, .slice h.i m.iT.length h.ic, .int .i64 m.dT, .int .i64 m.oT, .int .i64 m.vT, .int .i64 m.aT, .slice (some ⟨b, off, none⟩) m.uT.length h.uc], .agg #[.int .i64 m.uT[k].kind, .int .i64 m.uT[k].item, .int .i64 m.uT[k].other, .int .i64 m.uT[k].n, .int .i64 m.uT[k].by_, .bool m.uT[k].always, .slice A2 m.uT[k].machines.length c2]] wr.drew (fun e w' => e = .returned (.bool (ruleOk m m.uT[k])) ∧ Below wr.drew.heap.size wr.drew w') from hb1.out 1)
       rw [hA] at a10
       have hltI : (k : Int) < (m.uT.length : Int) := by omega
       clear hA hb1 gI hd2
       cases e5 : ruleOk m m.uT[k]
       · have HV := hide (valid_rule hlt e5)
         rw [e5] at HC
         go_wp2_with fail
         go_region_with ((with_reducible refine HC.out.mono ?_); rintro e w3 ⟨rfl, hb3⟩)
         all_goals
          go_wp2_with fail
          go_ret
          exact ⟨ret_congr (by rw [HV.out]; rfl), (hW.out.drew.grow hb3).b⟩
       · rw [e5] at HC
         have HK := hide e5
         clear e5
         go_wp2_with fail
         go_region_with ((with_reducible refine HC.out.mono ?_); rintro e w3 ⟨rfl, hb3⟩)
         all_goals
          go_wp2_with fail
          go_roundw
          case rel => exact ⟨k + 1, by omega, by go_num, hide (hW.out.drew.grow hb3), fun j hj h1 => by
           rcases Nat.lt_or_ge j k with h2 | h2
           · exact hs j hj h2
           · obtain rfl : j = k := by omega
             exact HK⟩
          case measure => simp [intOf]; omega
     · have HZ := hide (HR.out HI.out (all_true_of' fun q hq => hs q hq (by omega)))
       have HB := hide hW.out.b
       have HQ := hide (show sizesB m = (exI m.dT m.sT.length && wiI m.oT 1 16 && wiI m.vT 0 (m.oT - 1) && wiI m.aT 0 7) from rfl)
       cases f1 : exI m.dT m.sT.length
       · go_wp2_with (go_at_call 45; refine (exists_ref _ _ _).mono ?_; rintro e w2 ⟨rfl, rfl⟩)
         go_ret
         exact ⟨ret_congr (by rw [HZ.out, HQ.out, f1]; rfl), HB.out⟩
       cases f2 : wiI m.oT 1 16
       · go_wp2_with (first
           | (go_at_call 45; refine (exists_ref _ _ _).mono ?_; rintro e w2 ⟨rfl, rfl⟩)
           | (go_at_call 46; refine (within_ref _ _ _ _).mono ?_; rintro e w2 ⟨rfl, rfl⟩))
         go_ret
         exact ⟨ret_congr (by rw [HZ.out, HQ.out, f1, f2]; rfl), HB.out⟩
       have fb : 1 ≤ m.oT ∧ m.oT ≤ 16 := by simpa [wiI] using f2
       obtain ⟨fb1, fb2⟩ := fb
       cases f3 : wiI m.vT 0 (m.oT - 1) <;> cases f4 : wiI m.aT 0 7
       all_goals
        go_wp2_with (first
         | (go_at_call 45; refine (exists_ref _ _ _).mono ?_; rintro e w2 ⟨rfl, rfl⟩)
         | (go_at_call 46; refine (within_ref _ _ _ _).mono ?_; rintro e w2 ⟨rfl, rfl⟩))
        go_ret
        exact ⟨ret_congr (by rw [HZ.out, HQ.out, f1, f2, f3, f4]; rfl), HB.out⟩
end Go.Proofs.YtcfogipaadhbeaaGreatDoor
