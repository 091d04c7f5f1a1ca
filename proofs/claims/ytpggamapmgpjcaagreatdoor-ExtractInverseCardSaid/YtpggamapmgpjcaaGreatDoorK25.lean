/- The walks of exodusref15.Item and Rule: whether an item, a rule is valid. Conditions: lengths that fit memory. -/
import Derived.Test.YtpggamapmgpjcaaGreatDoorK20

namespace Go.Proofs.YtpggamapmgpjcaaGreatDoor
open Go Go.RowKit Go.Proofs

theorem two_any (w : World) (c1 c2 : Array Value) (t1 t2 : TypeId) : Below w.heap.size w ((w.alloc (.cells c1 t1)).alloc (.cells c2 t2)) := ((Below.refl _ _).alloc (Nat.le_refl _) _).alloc (by simp) _
theorem two_boxes (w : World) (h : MH) (m : Mod) (T : TypeId) (cs : Array Value) : Below w.heap.size w ((w.alloc (.cells #[.slice h.s m.sites.length h.sc, .slice h.f m.feeds.length h.fc, .slice h.r m.racks.length h.rc, .slice h.m m.machs.length h.mc, .slice h.l m.links.length h.lc, .slice h.i m.items.length h.ic, .int .i64 m.dark, .int .i64 m.slots, .int .i64 m.reserve, .int .i64 m.failures, .slice h.u m.rules.length h.uc] 29)).alloc (.cells cs T)) := ((Below.refl _ _).alloc (Nat.le_refl _) _).alloc (by simp) _
set_option maxRecDepth 100000 in
set_option maxHeartbeats 4000000 in
theorem item15_ref (h : MH) (m : Mod) (x : ItemM) (A : Option Addr) (c : Nat) (w : World) (hl : x.on.length ≤ 9223372036854775807) (hI : Ints w w.heap.size A x.on) :
    Calls Tryz.prog 106 #[.agg #[.slice h.s m.sites.length h.sc, .slice h.f m.feeds.length h.fc, .slice h.r m.racks.length h.rc, .slice h.m m.machs.length h.mc, .slice h.l m.links.length h.lc, .slice h.i m.items.length h.ic, .int .i64 m.dark, .int .i64 m.slots, .int .i64 m.reserve, .int .i64 m.failures, .slice h.u m.rules.length h.uc], .agg #[.string x.name, .int .i64 x.kind, .int .i64 x.count, .int .i64 x.load, .int .i64 x.size, .int .i64 x.share, .slice A x.on.length c]] w fun e w' => e = .returned (.bool (itemOk m x)) ∧ Below w.heap.size w w' := by
  have hBW := two_boxes w h m 91 #[.string x.name, .int .i64 x.kind, .int .i64 x.count, .int .i64 x.load, .int .i64 x.size, .int .i64 x.share, .slice A x.on.length c]
  have HI := hide (hI.grow hBW)
  have HX := hide (Blk.new (w.alloc (.cells #[.slice h.s m.sites.length h.sc, .slice h.f m.feeds.length h.fc, .slice h.r m.racks.length h.rc, .slice h.m m.machs.length h.mc, .slice h.l m.links.length h.lc, .slice h.i m.items.length h.ic, .int .i64 m.dark, .int .i64 m.slots, .int .i64 m.reserve, .int .i64 m.failures, .slice h.u m.rules.length h.uc] 29)) 91 #[.string x.name, .int .i64 x.kind, .int .i64 x.count, .int .i64 x.load, .int .i64 x.size, .int .i64 x.share, .slice A x.on.length c])
  have HB := hide hBW
  clear hBW
  go_enter Tryz.func106, Tryz.ntmps106
  go_wp2_with (first
    | (go_at_call 168; refine (machines15_ref h m A c x.on _ hl HI.out).mono ?_; rintro e w1 ⟨rfl, hb1⟩
       have hx := HX.out.below hb1 (by simp)
       have hB1 := hide (HB.out.trans (hb1.mono HB.out.size))
       have y1 := hx.cell 1
       have y2 := hx.cell 2
       have y3 := hx.cell 3
       have y4 := hx.cell 4
       have y5 := hx.cell 5
       have y6 := hx.cell 6
       have ylt := hx.lt
       simp at y1 y2 y3 y4 y5 y6 ylt
       clear hx hb1)
    | (go_at_call 109; refine (within_ref _ _ _ _).mono ?_; rintro e w' ⟨rfl, rfl⟩))
  all_goals
    go_ret
    refine ⟨ret_congr (congrArg Value.bool ?_), hB1.out⟩
    simp_all [itemOk, itemKindB]
    try first | omega | rfl | grind
set_option maxRecDepth 100000 in
set_option maxHeartbeats 8000000 in
theorem rule15_0 (h : MH) (m : Mod) (it ot n bY : Int) (al : Bool) (A : Option Addr) (c : Nat) (ms : List Int) (w : World) (d : MD w w.heap.size h m) (_hl : ms.length ≤ 9223372036854775807) (_hI : Ints w w.heap.size A ms) :
    Calls Tryz.prog 107 #[.agg #[.slice h.s m.sites.length h.sc, .slice h.f m.feeds.length h.fc, .slice h.r m.racks.length h.rc, .slice h.m m.machs.length h.mc, .slice h.l m.links.length h.lc, .slice h.i m.items.length h.ic, .int .i64 m.dark, .int .i64 m.slots, .int .i64 m.reserve, .int .i64 m.failures, .slice h.u m.rules.length h.uc], .agg #[.int .i64 0, .int .i64 it, .int .i64 ot, .int .i64 n, .int .i64 bY, .bool al, .slice A ms.length c]] w fun e w' => e = .returned (.bool (ruleOk m ⟨0, it, ot, n, bY, al, ms⟩)) ∧ Below w.heap.size w w' := by
  have HB := hide (two_boxes w h m 105 #[.int .i64 0, .int .i64 it, .int .i64 ot, .int .i64 n, .int .i64 bY, .bool al, .slice A ms.length c])
  cases e0 : exI it m.items.length
  · have HR := hide (show ruleOk m ⟨0, it, ot, n, bY, al, ms⟩ = false by simp [ruleOk, e0])
    clear d
    go_enter Tryz.func107, Tryz.ntmps107
    go_wp2_with (first
      | (go_at_call 108; refine (exists_ref _ _ _).mono ?_; rintro e w2 ⟨rfl, rfl⟩)
      | (go_at_call 109; refine (within_ref _ _ _ _).mono ?_; rintro e w2 ⟨rfl, rfl⟩))
    all_goals
      go_ret
      exact ⟨ret_congr (by rw [HR.out]; rfl), two_any _ _ _ _ _⟩
  · have hit : 1 ≤ it ∧ it ≤ (m.items.length : Int) := by simpa [exI] using e0
    obtain ⟨j, hj, rfl⟩ : ∃ j : Nat, j < m.items.length ∧ it = (j : Int) + 1 := ⟨(it - 1).toNat, by omega, by omega⟩
    have hil := d.il
    obtain ⟨b, off, A2, c2, hA, hb, x0, x1, x2, x3, x4, x5, x6, _⟩ := d.dI.item hj
    clear x0 x2 x3 x4 x5 x6
    have hw1 : IntKind.i64.wrap ((j : Int) + 1 - 1) = (j : Int) := by rw [IntWalk.i64_in _ (by omega)]; omega
    have hjI : (j : Int) < (m.items.length : Int) := by omega
    have hb1 : b < w.heap.size + 1 := by omega
    have HG := hide (show m.items[((j : Int) + 1 - 1).toNat]? = some m.items[j] by simp [hj])
    have HE0 := hide e0
    clear hit
    go_enter Tryz.func107, Tryz.ntmps107
    go_wp2_with (first
      | (go_at_call 108; refine (exists_ref _ _ _).mono ?_; rintro e w2 ⟨rfl, rfl⟩)
      | (go_at_call 109; refine (within_ref _ _ _ _).mono ?_; rintro e w2 ⟨rfl, rfl⟩))
    all_goals
      go_ret
      refine ⟨ret_congr (congrArg Value.bool ?_), two_any _ _ _ _ _⟩
      have hg := HG.out
      have he := HE0.out
      simp_all [ruleOk, noList]
      try first | rfl | grind
set_option maxRecDepth 100000 in
set_option maxHeartbeats 8000000 in
theorem rule15_1 (h : MH) (m : Mod) (it ot n bY : Int) (al : Bool) (A : Option Addr) (c : Nat) (ms : List Int) (w : World) (_d : MD w w.heap.size h m) (_hl : ms.length ≤ 9223372036854775807) (_hI : Ints w w.heap.size A ms) :
    Calls Tryz.prog 107 #[.agg #[.slice h.s m.sites.length h.sc, .slice h.f m.feeds.length h.fc, .slice h.r m.racks.length h.rc, .slice h.m m.machs.length h.mc, .slice h.l m.links.length h.lc, .slice h.i m.items.length h.ic, .int .i64 m.dark, .int .i64 m.slots, .int .i64 m.reserve, .int .i64 m.failures, .slice h.u m.rules.length h.uc], .agg #[.int .i64 1, .int .i64 it, .int .i64 ot, .int .i64 n, .int .i64 bY, .bool al, .slice A ms.length c]] w fun e w' => e = .returned (.bool (ruleOk m ⟨1, it, ot, n, bY, al, ms⟩)) ∧ Below w.heap.size w w' := by
  have HB := hide (two_boxes w h m 105 #[.int .i64 1, .int .i64 it, .int .i64 ot, .int .i64 n, .int .i64 bY, .bool al, .slice A ms.length c])
  go_enter Tryz.func107, Tryz.ntmps107
  go_wp2_with (first
    | (go_at_call 108; refine (exists_ref _ _ _).mono ?_; rintro e w2 ⟨rfl, rfl⟩)
    | (go_at_call 109; refine (within_ref _ _ _ _).mono ?_; rintro e w2 ⟨rfl, rfl⟩))
  all_goals
    go_ret
    refine ⟨ret_congr (congrArg Value.bool ?_), by first | exact hB1.out | exact two_any _ _ _ _ _⟩
    simp_all [ruleOk, noList]
    try first | rfl | grind
set_option maxRecDepth 100000 in
set_option maxHeartbeats 8000000 in
theorem rule15_2 (h : MH) (m : Mod) (it ot n bY : Int) (al : Bool) (A : Option Addr) (c : Nat) (ms : List Int) (w : World) (_d : MD w w.heap.size h m) (_hl : ms.length ≤ 9223372036854775807) (_hI : Ints w w.heap.size A ms) :
    Calls Tryz.prog 107 #[.agg #[.slice h.s m.sites.length h.sc, .slice h.f m.feeds.length h.fc, .slice h.r m.racks.length h.rc, .slice h.m m.machs.length h.mc, .slice h.l m.links.length h.lc, .slice h.i m.items.length h.ic, .int .i64 m.dark, .int .i64 m.slots, .int .i64 m.reserve, .int .i64 m.failures, .slice h.u m.rules.length h.uc], .agg #[.int .i64 2, .int .i64 it, .int .i64 ot, .int .i64 n, .int .i64 bY, .bool al, .slice A ms.length c]] w fun e w' => e = .returned (.bool (ruleOk m ⟨2, it, ot, n, bY, al, ms⟩)) ∧ Below w.heap.size w w' := by
  have HB := hide (two_boxes w h m 105 #[.int .i64 2, .int .i64 it, .int .i64 ot, .int .i64 n, .int .i64 bY, .bool al, .slice A ms.length c])
  go_enter Tryz.func107, Tryz.ntmps107
  go_wp2_with (first
    | (go_at_call 108; refine (exists_ref _ _ _).mono ?_; rintro e w2 ⟨rfl, rfl⟩)
    | (go_at_call 109; refine (within_ref _ _ _ _).mono ?_; rintro e w2 ⟨rfl, rfl⟩))
  all_goals
    go_ret
    refine ⟨ret_congr (congrArg Value.bool ?_), by first | exact hB1.out | exact two_any _ _ _ _ _⟩
    simp_all [ruleOk, noList]
    try first | rfl | grind
set_option maxRecDepth 100000 in
set_option maxHeartbeats 8000000 in
theorem rule15_3 (h : MH) (m : Mod) (it ot n bY : Int) (al : Bool) (A : Option Addr) (c : Nat) (ms : List Int) (w : World) (_d : MD w w.heap.size h m) (hl : ms.length ≤ 9223372036854775807) (hI : Ints w w.heap.size A ms) :
    Calls Tryz.prog 107 #[.agg #[.slice h.s m.sites.length h.sc, .slice h.f m.feeds.length h.fc, .slice h.r m.racks.length h.rc, .slice h.m m.machs.length h.mc, .slice h.l m.links.length h.lc, .slice h.i m.items.length h.ic, .int .i64 m.dark, .int .i64 m.slots, .int .i64 m.reserve, .int .i64 m.failures, .slice h.u m.rules.length h.uc], .agg #[.int .i64 3, .int .i64 it, .int .i64 ot, .int .i64 n, .int .i64 bY, .bool al, .slice A ms.length c]] w fun e w' => e = .returned (.bool (ruleOk m ⟨3, it, ot, n, bY, al, ms⟩)) ∧ Below w.heap.size w w' := by
  have HB := hide (two_boxes w h m 105 #[.int .i64 3, .int .i64 it, .int .i64 ot, .int .i64 n, .int .i64 bY, .bool al, .slice A ms.length c])
  go_enter Tryz.func107, Tryz.ntmps107
  go_wp2_with (first
    | (go_at_call 168; refine (machines15_ref h m A c ms _ hl (hI.grow (two_any _ _ _ _ _))).mono ?_; rintro e w1 ⟨rfl, hb1⟩; have hx := (Blk.new (w.alloc _) 105 _).below hb1 (by simp); have hB1 := hide ((two_any _ _ _ _ _).trans (hb1.mono (by simp; omega))); have y2 := hx.cell 2; have y3 := hx.cell 3; have y4 := hx.cell 4; have y5 := hx.cell 5; have ylt := hx.lt; simp at y2 y3 y4 y5 ylt; clear hx hb1)
    | (go_at_call 108; refine (exists_ref _ _ _).mono ?_; rintro e w2 ⟨rfl, rfl⟩)
    | (go_at_call 109; refine (within_ref _ _ _ _).mono ?_; rintro e w2 ⟨rfl, rfl⟩))
  all_goals
    go_ret
    refine ⟨ret_congr (congrArg Value.bool ?_), by first | exact hB1.out | exact two_any _ _ _ _ _⟩
    simp_all [ruleOk]
    try first | rfl | grind
set_option maxRecDepth 100000 in
set_option maxHeartbeats 8000000 in
theorem rule15_4 (h : MH) (m : Mod) (it ot n bY : Int) (al : Bool) (A : Option Addr) (c : Nat) (ms : List Int) (w : World) (_d : MD w w.heap.size h m) (_hl : ms.length ≤ 9223372036854775807) (_hI : Ints w w.heap.size A ms) :
    Calls Tryz.prog 107 #[.agg #[.slice h.s m.sites.length h.sc, .slice h.f m.feeds.length h.fc, .slice h.r m.racks.length h.rc, .slice h.m m.machs.length h.mc, .slice h.l m.links.length h.lc, .slice h.i m.items.length h.ic, .int .i64 m.dark, .int .i64 m.slots, .int .i64 m.reserve, .int .i64 m.failures, .slice h.u m.rules.length h.uc], .agg #[.int .i64 4, .int .i64 it, .int .i64 ot, .int .i64 n, .int .i64 bY, .bool al, .slice A ms.length c]] w fun e w' => e = .returned (.bool (ruleOk m ⟨4, it, ot, n, bY, al, ms⟩)) ∧ Below w.heap.size w w' := by
  have HB := hide (two_boxes w h m 105 #[.int .i64 4, .int .i64 it, .int .i64 ot, .int .i64 n, .int .i64 bY, .bool al, .slice A ms.length c])
  go_enter Tryz.func107, Tryz.ntmps107
  go_wp2_with (first
    | (go_at_call 108; refine (exists_ref _ _ _).mono ?_; rintro e w2 ⟨rfl, rfl⟩)
    | (go_at_call 109; refine (within_ref _ _ _ _).mono ?_; rintro e w2 ⟨rfl, rfl⟩))
  all_goals
    go_ret
    refine ⟨ret_congr (congrArg Value.bool ?_), by first | exact hB1.out | exact two_any _ _ _ _ _⟩
    simp_all [ruleOk, noList]
    try first | rfl | grind
set_option maxRecDepth 100000 in
set_option maxHeartbeats 8000000 in
theorem rule15_5 (h : MH) (m : Mod) (it ot n bY : Int) (al : Bool) (A : Option Addr) (c : Nat) (ms : List Int) (w : World) (_d : MD w w.heap.size h m) (_hl : ms.length ≤ 9223372036854775807) (_hI : Ints w w.heap.size A ms) :
    Calls Tryz.prog 107 #[.agg #[.slice h.s m.sites.length h.sc, .slice h.f m.feeds.length h.fc, .slice h.r m.racks.length h.rc, .slice h.m m.machs.length h.mc, .slice h.l m.links.length h.lc, .slice h.i m.items.length h.ic, .int .i64 m.dark, .int .i64 m.slots, .int .i64 m.reserve, .int .i64 m.failures, .slice h.u m.rules.length h.uc], .agg #[.int .i64 5, .int .i64 it, .int .i64 ot, .int .i64 n, .int .i64 bY, .bool al, .slice A ms.length c]] w fun e w' => e = .returned (.bool (ruleOk m ⟨5, it, ot, n, bY, al, ms⟩)) ∧ Below w.heap.size w w' := by
  have HB := hide (two_boxes w h m 105 #[.int .i64 5, .int .i64 it, .int .i64 ot, .int .i64 n, .int .i64 bY, .bool al, .slice A ms.length c])
  go_enter Tryz.func107, Tryz.ntmps107
  go_wp2_with (first
    | (go_at_call 108; refine (exists_ref _ _ _).mono ?_; rintro e w2 ⟨rfl, rfl⟩)
    | (go_at_call 109; refine (within_ref _ _ _ _).mono ?_; rintro e w2 ⟨rfl, rfl⟩))
  all_goals
    go_ret
    refine ⟨ret_congr (congrArg Value.bool ?_), by first | exact hB1.out | exact two_any _ _ _ _ _⟩
    simp_all [ruleOk, noList]
    try first | rfl | grind
set_option maxRecDepth 100000 in
set_option maxHeartbeats 8000000 in
theorem rule15_6 (h : MH) (m : Mod) (it ot n bY : Int) (al : Bool) (A : Option Addr) (c : Nat) (ms : List Int) (w : World) (_d : MD w w.heap.size h m) (_hl : ms.length ≤ 9223372036854775807) (_hI : Ints w w.heap.size A ms) :
    Calls Tryz.prog 107 #[.agg #[.slice h.s m.sites.length h.sc, .slice h.f m.feeds.length h.fc, .slice h.r m.racks.length h.rc, .slice h.m m.machs.length h.mc, .slice h.l m.links.length h.lc, .slice h.i m.items.length h.ic, .int .i64 m.dark, .int .i64 m.slots, .int .i64 m.reserve, .int .i64 m.failures, .slice h.u m.rules.length h.uc], .agg #[.int .i64 6, .int .i64 it, .int .i64 ot, .int .i64 n, .int .i64 bY, .bool al, .slice A ms.length c]] w fun e w' => e = .returned (.bool (ruleOk m ⟨6, it, ot, n, bY, al, ms⟩)) ∧ Below w.heap.size w w' := by
  have HB := hide (two_boxes w h m 105 #[.int .i64 6, .int .i64 it, .int .i64 ot, .int .i64 n, .int .i64 bY, .bool al, .slice A ms.length c])
  go_enter Tryz.func107, Tryz.ntmps107
  go_wp2_with (first
    | (go_at_call 108; refine (exists_ref _ _ _).mono ?_; rintro e w2 ⟨rfl, rfl⟩)
    | (go_at_call 109; refine (within_ref _ _ _ _).mono ?_; rintro e w2 ⟨rfl, rfl⟩))
  all_goals
    go_ret
    refine ⟨ret_congr (congrArg Value.bool ?_), by first | exact hB1.out | exact two_any _ _ _ _ _⟩
    simp_all [ruleOk, noList]
    try first | rfl | grind
set_option maxRecDepth 100000 in
set_option maxHeartbeats 8000000 in
theorem rule15_no (h : MH) (m : Mod) (kd : Int) (hn : ¬ (0 ≤ kd ∧ kd ≤ 6)) (it ot n bY : Int) (al : Bool) (A : Option Addr) (c : Nat) (ms : List Int) (w : World) (_d : MD w w.heap.size h m) (_hl : ms.length ≤ 9223372036854775807) (_hI : Ints w w.heap.size A ms) :
    Calls Tryz.prog 107 #[.agg #[.slice h.s m.sites.length h.sc, .slice h.f m.feeds.length h.fc, .slice h.r m.racks.length h.rc, .slice h.m m.machs.length h.mc, .slice h.l m.links.length h.lc, .slice h.i m.items.length h.ic, .int .i64 m.dark, .int .i64 m.slots, .int .i64 m.reserve, .int .i64 m.failures, .slice h.u m.rules.length h.uc], .agg #[.int .i64 kd, .int .i64 it, .int .i64 ot, .int .i64 n, .int .i64 bY, .bool al, .slice A ms.length c]] w fun e w' => e = .returned (.bool (ruleOk m ⟨kd, it, ot, n, bY, al, ms⟩)) ∧ Below w.heap.size w w' := by
  have HB := hide (two_boxes w h m 105 #[.int .i64 kd, .int .i64 it, .int .i64 ot, .int .i64 n, .int .i64 bY, .bool al, .slice A ms.length c])
  have n0 : (kd == 0) = false := by simp; omega
  have n1 : (kd == 1) = false := by simp; omega
  have n2 : (kd == 2) = false := by simp; omega
  have n3 : (kd == 3) = false := by simp; omega
  have n4 : (kd == 4) = false := by simp; omega
  have n5 : (kd == 5) = false := by simp; omega
  have n6 : (kd == 6) = false := by simp; omega
  have HR := hide (show ruleOk m ⟨kd, it, ot, n, bY, al, ms⟩ = false by unfold ruleOk; simp only []; repeat rw [if_neg (by omega)])
  clear hn
  go_enter Tryz.func107, Tryz.ntmps107
  go_wp2_with (first
    | (go_at_call 108; refine (exists_ref _ _ _).mono ?_; rintro e w2 ⟨rfl, rfl⟩)
    | (go_at_call 109; refine (within_ref _ _ _ _).mono ?_; rintro e w2 ⟨rfl, rfl⟩))
  all_goals
    go_ret
    refine ⟨ret_congr (congrArg Value.bool ?_), by first | exact hB1.out | exact two_any _ _ _ _ _⟩
    simp only [HR.out]
theorem rule15_ref (h : MH) (m : Mod) (x : RuleM) (A : Option Addr) (c : Nat) (w : World) (d : MD w w.heap.size h m) (hl : x.machines.length ≤ 9223372036854775807) (hI : Ints w w.heap.size A x.machines) :
    Calls Tryz.prog 107 #[.agg #[.slice h.s m.sites.length h.sc, .slice h.f m.feeds.length h.fc, .slice h.r m.racks.length h.rc, .slice h.m m.machs.length h.mc, .slice h.l m.links.length h.lc, .slice h.i m.items.length h.ic, .int .i64 m.dark, .int .i64 m.slots, .int .i64 m.reserve, .int .i64 m.failures, .slice h.u m.rules.length h.uc], .agg #[.int .i64 x.kind, .int .i64 x.item, .int .i64 x.other, .int .i64 x.n, .int .i64 x.by_, .bool x.always, .slice A x.machines.length c]] w fun e w' => e = .returned (.bool (ruleOk m x)) ∧ Below w.heap.size w w' := by
  obtain ⟨kd, it, ot, n, bY, al, ms⟩ := x
  by_cases hk : 0 ≤ kd ∧ kd ≤ 6
  · have : kd = 0 ∨ kd = 1 ∨ kd = 2 ∨ kd = 3 ∨ kd = 4 ∨ kd = 5 ∨ kd = 6 := by omega
    rcases this with rfl | rfl | rfl | rfl | rfl | rfl | rfl
    · exact rule15_0 h m it ot n bY al A c ms w d hl hI
    · exact rule15_1 h m it ot n bY al A c ms w d hl hI
    · exact rule15_2 h m it ot n bY al A c ms w d hl hI
    · exact rule15_3 h m it ot n bY al A c ms w d hl hI
    · exact rule15_4 h m it ot n bY al A c ms w d hl hI
    · exact rule15_5 h m it ot n bY al A c ms w d hl hI
    · exact rule15_6 h m it ot n bY al A c ms w d hl hI
  · exact rule15_no h m kd hk it ot n bY al A c ms w d hl hI
end Go.Proofs.YtpggamapmgpjcaaGreatDoor
