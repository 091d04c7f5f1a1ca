/- A part of the claim: see its last text. -/
import Derived.Test.YtcfogipaadhbeaaGreatDoorUK22

set_option maxRecDepth 100000
set_option maxHeartbeats 16000000
namespace Go.Proofs.YtcfogipaadhbeaaGreatDoor
open Go Go.RowKit Go.Proofs
theorem two_boxes2 (w : World) (c1 c2 : Array Value) (t1 t2 : TypeId) : Below w.heap.size w ((w.alloc (.cells c1 t1)).alloc (.cells c2 t2)) := ((Below.refl _ _).alloc (Nat.le_refl _) _).alloc (by simp) _
theorem three_boxes2 (w : World) (c1 c2 c3 : Array Value) (t1 t2 t3 : TypeId) : Below w.heap.size w (((w.alloc (.cells c1 t1)).alloc (.cells c2 t2)).alloc (.cells c3 t3)) := (((Below.refl _ _).alloc (Nat.le_refl _) _).alloc (by simp) _).alloc (by simp; omega) _
theorem within_prog (n a b : Int) (w : World) : Calls Tryz.prog 69 #[.int .i64 n, .int .i64 a, .int .i64 b] w fun e w' => e = .returned (.bool (wiI n a b)) ∧ w = w' := by
 by_cases h1 : a ≤ n <;> by_cases h2 : n ≤ b
 all_goals
  have hL : wiI n a b = (decide (a ≤ n) && decide (n ≤ b)) := rfl
  have HL := hide hL; clear hL
  go_enter Tryz.func69, Tryz.ntmps69
  go_wp2
  go_ret
  exact ⟨ret_congr (by rw [HL.out]; simp [*]), rfl⟩
theorem wi_ex (n l : Int) : wiI n 1 l = exI n l := rfl
theorem item_prog (h : MH) (m : Mod) (n : Int) (w : World) (_l0 : m.iT.length ≤ 9223372036854775807) :
    Calls Tryz.prog 184 #[.agg #[.slice h.s m.sT.length h.sc, .slice h.f m.fT.length h.fc, .slice h.r m.rT.length h.rc, .slice h.m m.mT.length h.mc, .slice h.l m.lT.length h.lc, .slice h.i m.iT.length h.ic, .int .i64 m.dT, .int .i64 m.oT, .int .i64 m.vT, .int .i64 m.aT, .slice h.u m.uT.length h.uc], .int .i64 n] w fun e w' => e = .returned (.bool (exI n m.iT.length)) ∧ w.alloc (.cells #[.slice h.s m.sT.length h.sc, .slice h.f m.fT.length h.fc, .slice h.r m.rT.length h.rc, .slice h.m m.mT.length h.mc, .slice h.l m.lT.length h.lc, .slice h.i m.iT.length h.ic, .int .i64 m.dT, .int .i64 m.oT, .int .i64 m.vT, .int .i64 m.aT, .slice h.u m.uT.length h.uc] 32) = w' := by
 have HW := hide (fun W => within_prog n 1 m.iT.length W)
 rw [wi_ex] at HW
 go_enter Tryz.func184, Tryz.ntmps184
 go_wp2_with (go_at_call 69; refine (HW.out _).mono ?_; rintro e w' ⟨rfl, rfl⟩)
 go_ret
 exact ⟨rfl, rfl⟩
theorem machines_prog (h : MH) (m : Mod) (A : Option Addr) (c : Nat) (l : List Int) (w : World) (hl : l.length ≤ 9223372036854775807) (_l0 : m.mT.length ≤ 9223372036854775807) (hI : Ints w w.heap.size A l) :
    Calls Tryz.prog 131 #[.agg #[.slice h.s m.sT.length h.sc, .slice h.f m.fT.length h.fc, .slice h.r m.rT.length h.rc, .slice h.m m.mT.length h.mc, .slice h.l m.lT.length h.lc, .slice h.i m.iT.length h.ic, .int .i64 m.dT, .int .i64 m.oT, .int .i64 m.vT, .int .i64 m.aT, .slice h.u m.uT.length h.uc], .slice A l.length c] w fun e w' => e = .returned (.bool (incB m.mT.length l)) ∧ Below w.heap.size w w' := by
 have HWI := hide (fun (n : Int) (W : World) => within_prog n 1 m.mT.length W)
 simp only [wi_ex] at HWI
 go_enter Tryz.func131, Tryz.ntmps131
 go_wp2_with fail
 go_loopw [9] (fun i wr => ∃ k : Nat, k ≤ l.length ∧ i = .int .i64 k ∧ Hid (MW w w.heap.size wr h m) ∧ Hid (∀ j (hj : j < l.length), j < k → exI l[j] m.mT.length = true ∧ (0 < j → l.getD (j - 1) 0 < l[j]))) (fun i _ => l.length - (intOf i).toNat)
 case atStart => exact ⟨0, Nat.zero_le _, rfl, MW.start w h m, fun j hj h0 => absurd h0 (by omega)⟩
 case round =>
  obtain ⟨k, hk, rfl, hW, hs⟩ := hrel
  have hL1 := hW.out.lt
  by_cases hlt : k < l.length
  · obtain ⟨a0, a1, a2, a3, a4, a5, a6, a7, a8, a9, a10⟩ := MB.cells hW.out.blk
    clear a0 a1 a2 a4 a5 a6 a7 a8 a9 a10
    obtain ⟨b, off, hA, hb, x0⟩ := int_at (hI.grow hW.out.b) hlt
    subst hA
    cases e1 : exI l[k] m.mT.length
    · have HV := hide (incB_false (nm := m.mT.length) hlt (.inl e1))
      go_wp2_with (go_at_call 69; refine (HWI.out _ _).mono ?_; rintro e w' ⟨rfl, rfl⟩)
      go_ret
      exact ⟨ret_congr (by rw [HV.out]; rfl), hW.out.b⟩
    by_cases hk0 : k = 0
    · have hk0I : decide (0 < k) = false := by simp [hk0]
      have HK := hide (show exI l[k] m.mT.length = true ∧ (0 < k → l.getD (k - 1) 0 < l[k]) from ⟨e1, fun h => by omega⟩)
      have HK0 := hide hk0
      clear hk0
      go_wp2_with (go_at_call 69; refine (HWI.out _ _).mono ?_; rintro e w' ⟨rfl, rfl⟩)
      go_roundw
      case rel => exact ⟨k + 1, by omega, by go_num, hW, fun q hq' h1 => by
       rcases Nat.lt_or_ge q k with h2 | h2
       · exact hs q hq' h2
       · obtain rfl : q = k := by omega
         exact HK⟩
      case measure => simp [intOf]; omega
    · obtain ⟨j, rfl⟩ : ∃ j, k = j + 1 := ⟨k - 1, by omega⟩
      obtain ⟨b', off', hA', _, x1⟩ := int_at (hI.grow hW.out.b) (k := j) (by omega)
      injection hA' with hA'
      injection hA' with hA1 hA2
      subst hA1
      subst hA2
      have hg : l.getD (j + 1 - 1) 0 = l[j] := by simp [List.getD, show j < l.length by omega]
      by_cases e2 : l[j + 1] ≤ l[j]
      · have HV := hide (incB_false (nm := m.mT.length) hlt (.inr ⟨by omega, by rw [hg]; exact e2⟩))
        clear hg
        go_wp2_with (go_at_call 69; refine (HWI.out _ _).mono ?_; rintro e w' ⟨rfl, rfl⟩)
        go_ret
        exact ⟨ret_congr (by rw [HV.out]; rfl), hW.out.b⟩
      · have HK := hide (show exI l[j + 1] m.mT.length = true ∧ (0 < j + 1 → l.getD (j + 1 - 1) 0 < l[j + 1]) from ⟨e1, fun h => by rw [hg]; omega⟩)
        clear hg
        go_wp2_with (go_at_call 69; refine (HWI.out _ _).mono ?_; rintro e w' ⟨rfl, rfl⟩)
        go_roundw
        case rel => exact ⟨j + 1 + 1, by omega, by go_num, hW, fun q hq' h1 => by
         rcases Nat.lt_or_ge q (j + 1) with h2 | h2
         · exact hs q hq' h2
         · obtain rfl : q = j + 1 := by omega
           exact HK⟩
        case measure => simp [intOf]; omega
  · have HV := hide (incB_end (nm := m.mT.length) fun q hq _ => hs.out q hq (by omega))
    go_wp2_with fail
    go_ret
    exact ⟨ret_congr (by rw [HV.out]; rfl), hW.out.b⟩
def sameR (a b : RuleM) : Bool := decide (a.item = b.item) && decide (a.other = b.other) && decide (a.n = b.n) && decide (a.by_ = b.by_) && (a.always == b.always) && decide (a.machines = b.machines)
theorem sameR_prog (x y : RuleM) (A A2 : Option Addr) (c c2 : Nat) (w : World) (hl : x.machines.length ≤ 9223372036854775807) (hl2 : y.machines.length ≤ 9223372036854775807) (hI : Ints w w.heap.size A x.machines) (hI2 : Ints w w.heap.size A2 y.machines) :
    Calls Tryz.prog 134 #[.agg #[.int .i64 x.kind, .int .i64 x.item, .int .i64 x.other, .int .i64 x.n, .int .i64 x.by_, .bool x.always, .slice A x.machines.length c], .agg #[.int .i64 y.kind, .int .i64 y.item, .int .i64 y.other, .int .i64 y.n, .int .i64 y.by_, .bool y.always, .slice A2 y.machines.length c2]] w fun e w' => e = .returned (.bool (sameR x y)) ∧ Below w.heap.size w w' := by
 obtain ⟨k, it, ot, n, bY, al, ms⟩ := x
 obtain ⟨k', it', ot', n', bY', al', ms'⟩ := y
 simp only at hl hl2 hI hI2 ⊢
 have HE := hide fun (X : World) (hX : Below w.heap.size w X) => equal_ints A A2 c c2 ms ms' X (hI.grow hX) (hI2.grow hX) hl hl2
 clear hI hI2
 by_cases h1 : it = it'
 rotate_left
 · have HV := hide (show sameR ⟨k, it, ot, n, bY, al, ms⟩ ⟨k', it', ot', n', bY', al', ms'⟩ = false by simp [sameR, h1])
   have g : (it == it') = false := by simpa using h1
   clear h1
   go_enter Tryz.func134, Tryz.ntmps134
   go_wp2_with fail
   go_ret
   exact ⟨ret_congr (by rw [HV.out]; rfl), two_boxes2 _ _ _ _ _⟩
 by_cases h2 : ot = ot'
 rotate_left
 · have HV := hide (show sameR ⟨k, it, ot, n, bY, al, ms⟩ ⟨k', it', ot', n', bY', al', ms'⟩ = false by simp [sameR, h2])
   have g : (ot == ot') = false := by simpa using h2
   subst h1
   clear h2
   go_enter Tryz.func134, Tryz.ntmps134
   go_wp2_with fail
   go_ret
   exact ⟨ret_congr (by rw [HV.out]; rfl), two_boxes2 _ _ _ _ _⟩
 by_cases h3 : n = n'
 rotate_left
 · have HV := hide (show sameR ⟨k, it, ot, n, bY, al, ms⟩ ⟨k', it', ot', n', bY', al', ms'⟩ = false by simp [sameR, h3])
   have g : (n == n') = false := by simpa using h3
   subst h1 h2
   clear h3
   go_enter Tryz.func134, Tryz.ntmps134
   go_wp2_with fail
   go_ret
   exact ⟨ret_congr (by rw [HV.out]; rfl), two_boxes2 _ _ _ _ _⟩
 by_cases h4 : bY = bY'
 rotate_left
 · have HV := hide (show sameR ⟨k, it, ot, n, bY, al, ms⟩ ⟨k', it', ot', n', bY', al', ms'⟩ = false by simp [sameR, h4])
   have g : (bY == bY') = false := by simpa using h4
   subst h1 h2 h3
   clear h4
   go_enter Tryz.func134, Tryz.ntmps134
   go_wp2_with fail
   go_ret
   exact ⟨ret_congr (by rw [HV.out]; rfl), two_boxes2 _ _ _ _ _⟩
 by_cases h5 : al = al'
 rotate_left
 · have HV := hide (show sameR ⟨k, it, ot, n, bY, al, ms⟩ ⟨k', it', ot', n', bY', al', ms'⟩ = false by simp [sameR, h5])
   have g : (al == al') = false := by simpa using h5
   subst h1 h2 h3 h4
   clear h5
   go_enter Tryz.func134, Tryz.ntmps134
   go_wp2_with fail
   go_ret
   exact ⟨ret_congr (by rw [HV.out]; rfl), two_boxes2 _ _ _ _ _⟩
 subst h1 h2 h3 h4 h5
 have HV := hide (show sameR ⟨k, it, ot, n, bY, al, ms⟩ ⟨k', it, ot, n, bY, al, ms'⟩ = decide (ms = ms') by simp [sameR])
 go_enter Tryz.func134, Tryz.ntmps134
 go_wp2_with (go_at_call 198; refine (HE.out _ (two_boxes2 _ _ _ _ _)).mono ?_; rintro e w1 ⟨rfl, hb1⟩)
 go_ret
 exact ⟨ret_congr (by rw [HV.out]; rfl), (two_boxes2 _ _ _ _ _).trans (hb1.mono (by simp; omega))⟩
def okK (m : Mod) (k : Nat) (x : RuleM) : Bool :=
 match k with
 | 0 => exI x.item m.iT.length && (match m.iT[(x.item - 1).toNat]? with | some y => decide (y.kind = 0) | none => false)
 | 1 => exI x.item m.iT.length && wiI x.n 0 16
 | 2 => exI x.item m.iT.length && wiI x.n 0 16 && decide (x.by_ ∈ [2, 3, 4])
 | 3 => exI x.item m.iT.length && incB m.mT.length x.machines
 | 4 => exI x.item m.iT.length && exI x.other m.iT.length && decide (x.item ≠ x.other)
 | 5 => wiI x.n 0 200
 | _ => exI x.item m.iT.length && wiI x.n 0 16
def onlyK (k : Nat) (x : RuleM) : RuleM :=
 match k with
 | 0 => ⟨0, x.item, 0, 0, 0, false, []⟩
 | 1 => ⟨0, x.item, 0, x.n, 0, x.always, []⟩
 | 2 => ⟨0, x.item, 0, x.n, x.by_, false, []⟩
 | 3 => ⟨0, x.item, 0, 0, 0, false, x.machines⟩
 | 4 => ⟨0, x.item, x.other, 0, 0, false, []⟩
 | 5 => ⟨0, 0, 0, x.n, 0, false, []⟩
 | _ => ⟨0, x.item, 0, x.n, 0, false, []⟩
def okFn (k : Nat) : Nat := match k with | 0 => 183 | 1 => 186 | 2 => 188 | 3 => 190 | 4 => 192 | 5 => 194 | _ => 196
def onlyFn (k : Nat) : Nat := match k with | 0 => 185 | 1 => 187 | 2 => 189 | 3 => 191 | 4 => 193 | 5 => 195 | _ => 197
theorem only_0 (x : RuleM) (A : Option Addr) (c : Nat) (w : World) : Calls Tryz.prog 185 #[.agg #[.int .i64 x.kind, .int .i64 x.item, .int .i64 x.other, .int .i64 x.n, .int .i64 x.by_, .bool x.always, .slice A x.machines.length c]] w fun e w' => e = .returned (.agg #[.int .i64 0, .int .i64 x.item, .int .i64 0, .int .i64 0, .int .i64 0, .bool false, .slice none 0 0]) ∧ Below w.heap.size w w' := by
 go_enter Tryz.func185, Tryz.ntmps185
 go_wp2_with fail
 exact bodyPost_ret (v := .agg #[.int .i64 0, .int .i64 x.item, .int .i64 0, .int .i64 0, .int .i64 0, .bool false, .slice none 0 0]) (by simp [results, Tryz.results185, go_sem]) rfl ⟨rfl, two_boxes2 _ _ _ _ _⟩
theorem only_1 (x : RuleM) (A : Option Addr) (c : Nat) (w : World) : Calls Tryz.prog 187 #[.agg #[.int .i64 x.kind, .int .i64 x.item, .int .i64 x.other, .int .i64 x.n, .int .i64 x.by_, .bool x.always, .slice A x.machines.length c]] w fun e w' => e = .returned (.agg #[.int .i64 0, .int .i64 x.item, .int .i64 0, .int .i64 x.n, .int .i64 0, .bool x.always, .slice none 0 0]) ∧ Below w.heap.size w w' := by
 go_enter Tryz.func187, Tryz.ntmps187
 go_wp2_with fail
 exact bodyPost_ret (v := .agg #[.int .i64 0, .int .i64 x.item, .int .i64 0, .int .i64 x.n, .int .i64 0, .bool x.always, .slice none 0 0]) (by simp [results, Tryz.results187, go_sem]) rfl ⟨rfl, two_boxes2 _ _ _ _ _⟩
theorem only_2 (x : RuleM) (A : Option Addr) (c : Nat) (w : World) : Calls Tryz.prog 189 #[.agg #[.int .i64 x.kind, .int .i64 x.item, .int .i64 x.other, .int .i64 x.n, .int .i64 x.by_, .bool x.always, .slice A x.machines.length c]] w fun e w' => e = .returned (.agg #[.int .i64 0, .int .i64 x.item, .int .i64 0, .int .i64 x.n, .int .i64 x.by_, .bool false, .slice none 0 0]) ∧ Below w.heap.size w w' := by
 go_enter Tryz.func189, Tryz.ntmps189
 go_wp2_with fail
 exact bodyPost_ret (v := .agg #[.int .i64 0, .int .i64 x.item, .int .i64 0, .int .i64 x.n, .int .i64 x.by_, .bool false, .slice none 0 0]) (by simp [results, Tryz.results189, go_sem]) rfl ⟨rfl, two_boxes2 _ _ _ _ _⟩
theorem only_3 (x : RuleM) (A : Option Addr) (c : Nat) (w : World) : Calls Tryz.prog 191 #[.agg #[.int .i64 x.kind, .int .i64 x.item, .int .i64 x.other, .int .i64 x.n, .int .i64 x.by_, .bool x.always, .slice A x.machines.length c]] w fun e w' => e = .returned (.agg #[.int .i64 0, .int .i64 x.item, .int .i64 0, .int .i64 0, .int .i64 0, .bool false, .slice A x.machines.length c]) ∧ Below w.heap.size w w' := by
 go_enter Tryz.func191, Tryz.ntmps191
 go_wp2_with fail
 exact bodyPost_ret (v := .agg #[.int .i64 0, .int .i64 x.item, .int .i64 0, .int .i64 0, .int .i64 0, .bool false, .slice A x.machines.length c]) (by simp [results, Tryz.results191, go_sem]) rfl ⟨rfl, two_boxes2 _ _ _ _ _⟩
theorem only_4 (x : RuleM) (A : Option Addr) (c : Nat) (w : World) : Calls Tryz.prog 193 #[.agg #[.int .i64 x.kind, .int .i64 x.item, .int .i64 x.other, .int .i64 x.n, .int .i64 x.by_, .bool x.always, .slice A x.machines.length c]] w fun e w' => e = .returned (.agg #[.int .i64 0, .int .i64 x.item, .int .i64 x.other, .int .i64 0, .int .i64 0, .bool false, .slice none 0 0]) ∧ Below w.heap.size w w' := by
 go_enter Tryz.func193, Tryz.ntmps193
 go_wp2_with fail
 exact bodyPost_ret (v := .agg #[.int .i64 0, .int .i64 x.item, .int .i64 x.other, .int .i64 0, .int .i64 0, .bool false, .slice none 0 0]) (by simp [results, Tryz.results193, go_sem]) rfl ⟨rfl, two_boxes2 _ _ _ _ _⟩
theorem only_5 (x : RuleM) (A : Option Addr) (c : Nat) (w : World) : Calls Tryz.prog 195 #[.agg #[.int .i64 x.kind, .int .i64 x.item, .int .i64 x.other, .int .i64 x.n, .int .i64 x.by_, .bool x.always, .slice A x.machines.length c]] w fun e w' => e = .returned (.agg #[.int .i64 0, .int .i64 0, .int .i64 0, .int .i64 x.n, .int .i64 0, .bool false, .slice none 0 0]) ∧ Below w.heap.size w w' := by
 go_enter Tryz.func195, Tryz.ntmps195
 go_wp2_with fail
 exact bodyPost_ret (v := .agg #[.int .i64 0, .int .i64 0, .int .i64 0, .int .i64 x.n, .int .i64 0, .bool false, .slice none 0 0]) (by simp [results, Tryz.results195, go_sem]) rfl ⟨rfl, two_boxes2 _ _ _ _ _⟩
theorem only_6 (x : RuleM) (A : Option Addr) (c : Nat) (w : World) : Calls Tryz.prog 197 #[.agg #[.int .i64 x.kind, .int .i64 x.item, .int .i64 x.other, .int .i64 x.n, .int .i64 x.by_, .bool x.always, .slice A x.machines.length c]] w fun e w' => e = .returned (.agg #[.int .i64 0, .int .i64 x.item, .int .i64 0, .int .i64 x.n, .int .i64 0, .bool false, .slice none 0 0]) ∧ Below w.heap.size w w' := by
 go_enter Tryz.func197, Tryz.ntmps197
 go_wp2_with fail
 exact bodyPost_ret (v := .agg #[.int .i64 0, .int .i64 x.item, .int .i64 0, .int .i64 x.n, .int .i64 0, .bool false, .slice none 0 0]) (by simp [results, Tryz.results197, go_sem]) rfl ⟨rfl, two_boxes2 _ _ _ _ _⟩
theorem ok_0 (h : MH) (m : Mod) (x : RuleM) (A : Option Addr) (c : Nat) (w : World) (d : MD w w.heap.size h m) (hl : x.machines.length ≤ 9223372036854775807) (hI : Ints w w.heap.size A x.machines) :
    Calls Tryz.prog 183 #[.agg #[.slice h.s m.sT.length h.sc, .slice h.f m.fT.length h.fc, .slice h.r m.rT.length h.rc, .slice h.m m.mT.length h.mc, .slice h.l m.lT.length h.lc, .slice h.i m.iT.length h.ic, .int .i64 m.dT, .int .i64 m.oT, .int .i64 m.vT, .int .i64 m.aT, .slice h.u m.uT.length h.uc], .agg #[.int .i64 x.kind, .int .i64 x.item, .int .i64 x.other, .int .i64 x.n, .int .i64 x.by_, .bool x.always, .slice A x.machines.length c]] w fun e w' => e = .returned (.bool (okK m 0 x)) ∧ Below w.heap.size w w' := by
 have l0 := d.il
 have l1 := d.ml
 obtain ⟨kd, it, ot, n, bY, al, ms⟩ := x
 simp only at hl hI ⊢
 have HB0 := hide (two_boxes2 w #[.slice h.s m.sT.length h.sc, .slice h.f m.fT.length h.fc, .slice h.r m.rT.length h.rc, .slice h.m m.mT.length h.mc, .slice h.l m.lT.length h.lc, .slice h.i m.iT.length h.ic, .int .i64 m.dT, .int .i64 m.oT, .int .i64 m.vT, .int .i64 m.aT, .slice h.u m.uT.length h.uc] #[.int .i64 kd, .int .i64 it, .int .i64 ot, .int .i64 n, .int .i64 bY, .bool al, .slice A ms.length c] 32 62)
 have HB1 := hide (HB0.out.alloc HB0.out.size (.cells #[.slice h.s m.sT.length h.sc, .slice h.f m.fT.length h.fc, .slice h.r m.rT.length h.rc, .slice h.m m.mT.length h.mc, .slice h.l m.lT.length h.lc, .slice h.i m.iT.length h.ic, .int .i64 m.dT, .int .i64 m.oT, .int .i64 m.vT, .int .i64 m.aT, .slice h.u m.uT.length h.uc] 32))
 cases e0 : exI it m.iT.length
 · have HR := hide (show okK m 0 ⟨kd, it, ot, n, bY, al, ms⟩ = false by simp [okK, e0])
   clear d
   go_enter Tryz.func183, Tryz.ntmps183
   go_wp2_with (first
    | (go_at_call 184; refine (item_prog h m _ _ l0).mono ?_; rintro e w2 ⟨rfl, rfl⟩))
   go_ret
   exact ⟨ret_congr (by rw [HR.out]; rfl), HB1.out⟩
 · have hit : 1 ≤ it ∧ it ≤ (m.iT.length : Int) := by simpa [exI] using e0
   obtain ⟨j, hj, rfl⟩ : ∃ j : Nat, j < m.iT.length ∧ it = (j : Int) + 1 := ⟨(it - 1).toNat, by omega, by omega⟩
   obtain ⟨b, off, A2, c2, hA, hb, x0, x1, x2, x3, x4, x5, x6, _⟩ := d.dI.item hj
   clear x0 x2 x3 x4 x5 x6 d
   have hw1 : IntKind.i64.wrap ((j : Int) + 1 - 1) = (j : Int) := by rw [IntWalk.i64_in _ (by omega)]; omega
   have hjI : (j : Int) < (m.iT.length : Int) := by omega
   have hb1 : b < w.heap.size + 1 := by omega
   have hb2 : b < w.heap.size + 1 + 1 := by omega
   have HR := hide (show okK m 0 ⟨kd, (j : Int) + 1, ot, n, bY, al, ms⟩ = decide (m.iT[j].kind = 0) by simp [okK, e0, hj])
   clear hit
   go_enter Tryz.func183, Tryz.ntmps183
   go_wp2_with (first
    | (go_at_call 184; refine (item_prog { h with i := some ⟨b, off, none⟩ } m _ _ l0).mono ?_; rintro e w2 ⟨rfl, rfl⟩))
   go_ret
   exact ⟨ret_congr (by rw [HR.out]; first | rfl | simp), three_boxes2 _ _ _ _ _ _ _⟩
theorem ok_1 (h : MH) (m : Mod) (x : RuleM) (A : Option Addr) (c : Nat) (w : World) (d : MD w w.heap.size h m) (hl : x.machines.length ≤ 9223372036854775807) (hI : Ints w w.heap.size A x.machines) :
    Calls Tryz.prog 186 #[.agg #[.slice h.s m.sT.length h.sc, .slice h.f m.fT.length h.fc, .slice h.r m.rT.length h.rc, .slice h.m m.mT.length h.mc, .slice h.l m.lT.length h.lc, .slice h.i m.iT.length h.ic, .int .i64 m.dT, .int .i64 m.oT, .int .i64 m.vT, .int .i64 m.aT, .slice h.u m.uT.length h.uc], .agg #[.int .i64 x.kind, .int .i64 x.item, .int .i64 x.other, .int .i64 x.n, .int .i64 x.by_, .bool x.always, .slice A x.machines.length c]] w fun e w' => e = .returned (.bool (okK m 1 x)) ∧ Below w.heap.size w w' := by
 have l0 := d.il
 have l1 := d.ml
 obtain ⟨kd, it, ot, n, bY, al, ms⟩ := x
 simp only at hl hI ⊢
 have HB0 := hide (two_boxes2 w #[.slice h.s m.sT.length h.sc, .slice h.f m.fT.length h.fc, .slice h.r m.rT.length h.rc, .slice h.m m.mT.length h.mc, .slice h.l m.lT.length h.lc, .slice h.i m.iT.length h.ic, .int .i64 m.dT, .int .i64 m.oT, .int .i64 m.vT, .int .i64 m.aT, .slice h.u m.uT.length h.uc] #[.int .i64 kd, .int .i64 it, .int .i64 ot, .int .i64 n, .int .i64 bY, .bool al, .slice A ms.length c] 32 62)
 have HB1 := hide (HB0.out.alloc HB0.out.size (.cells #[.slice h.s m.sT.length h.sc, .slice h.f m.fT.length h.fc, .slice h.r m.rT.length h.rc, .slice h.m m.mT.length h.mc, .slice h.l m.lT.length h.lc, .slice h.i m.iT.length h.ic, .int .i64 m.dT, .int .i64 m.oT, .int .i64 m.vT, .int .i64 m.aT, .slice h.u m.uT.length h.uc] 32))
 clear d hI hl
 have HK := hide (show okK m 1 ⟨kd, it, ot, n, bY, al, ms⟩ = (exI it m.iT.length && wiI n 0 16) from rfl)
 cases e0 : exI it m.iT.length <;> cases e1 : wiI n 0 16
 all_goals
  go_enter Tryz.func186, Tryz.ntmps186
  go_wp2_with (first
  | (go_at_call 184; refine (item_prog h m _ _ l0).mono ?_; rintro e w2 ⟨rfl, rfl⟩) | (go_at_call 69; refine (within_prog _ _ _ _).mono ?_; rintro e w2 ⟨rfl, rfl⟩))
  go_ret
  exact ⟨ret_congr (by rw [HK.out, e0, e1]; rfl), by first | exact HB1.out | exact HB0.out⟩
theorem ok_2 (h : MH) (m : Mod) (x : RuleM) (A : Option Addr) (c : Nat) (w : World) (d : MD w w.heap.size h m) (hl : x.machines.length ≤ 9223372036854775807) (hI : Ints w w.heap.size A x.machines) :
    Calls Tryz.prog 188 #[.agg #[.slice h.s m.sT.length h.sc, .slice h.f m.fT.length h.fc, .slice h.r m.rT.length h.rc, .slice h.m m.mT.length h.mc, .slice h.l m.lT.length h.lc, .slice h.i m.iT.length h.ic, .int .i64 m.dT, .int .i64 m.oT, .int .i64 m.vT, .int .i64 m.aT, .slice h.u m.uT.length h.uc], .agg #[.int .i64 x.kind, .int .i64 x.item, .int .i64 x.other, .int .i64 x.n, .int .i64 x.by_, .bool x.always, .slice A x.machines.length c]] w fun e w' => e = .returned (.bool (okK m 2 x)) ∧ Below w.heap.size w w' := by
 have l0 := d.il
 have l1 := d.ml
 obtain ⟨kd, it, ot, n, bY, al, ms⟩ := x
 simp only at hl hI ⊢
 have HB0 := hide (two_boxes2 w #[.slice h.s m.sT.length h.sc, .slice h.f m.fT.length h.fc, .slice h.r m.rT.length h.rc, .slice h.m m.mT.length h.mc, .slice h.l m.lT.length h.lc, .slice h.i m.iT.length h.ic, .int .i64 m.dT, .int .i64 m.oT, .int .i64 m.vT, .int .i64 m.aT, .slice h.u m.uT.length h.uc] #[.int .i64 kd, .int .i64 it, .int .i64 ot, .int .i64 n, .int .i64 bY, .bool al, .slice A ms.length c] 32 62)
 have HB1 := hide (HB0.out.alloc HB0.out.size (.cells #[.slice h.s m.sT.length h.sc, .slice h.f m.fT.length h.fc, .slice h.r m.rT.length h.rc, .slice h.m m.mT.length h.mc, .slice h.l m.lT.length h.lc, .slice h.i m.iT.length h.ic, .int .i64 m.dT, .int .i64 m.oT, .int .i64 m.vT, .int .i64 m.aT, .slice h.u m.uT.length h.uc] 32))
 clear d hI hl
 have HC := hide fun (X : World) (b : Nat) (hb : b = X.heap.size) => contains_ints (some ⟨b, 0, none⟩) 3 [2, 3, 4] bY (X.alloc (.cells #[.int .i64 2, .int .i64 3, .int .i64 4] 3)) (by decide) (by subst hb; exact (Ints.newRow X 3 [2, 3, 4]).more (by simp))
 have HK := hide (show okK m 2 ⟨kd, it, ot, n, bY, al, ms⟩ = (exI it m.iT.length && wiI n 0 16 && decide (bY ∈ ([2, 3, 4] : List Int))) from rfl)
 generalize decide (bY ∈ ([2, 3, 4] : List Int)) = q at HC HK
 cases e0 : exI it m.iT.length <;> cases e1 : wiI n 0 16
 all_goals
  go_enter Tryz.func188, Tryz.ntmps188
  go_wp2_with (first
  | (go_at_call 184; refine (item_prog h m _ _ l0).mono ?_; rintro e w2 ⟨rfl, rfl⟩) | (go_at_call 69; refine (within_prog _ _ _ _).mono ?_; rintro e w2 ⟨rfl, rfl⟩)
  | (go_at_call 85; refine (HC.out _ _ (by simp)).mono ?_; rintro e w2 ⟨rfl, rfl⟩))
  go_ret
  exact ⟨ret_congr (by rw [HK.out, e0, e1]; rfl), by first | exact HB1.out | exact (HB1.out.alloc HB1.out.size _)⟩
theorem ok_3 (h : MH) (m : Mod) (x : RuleM) (A : Option Addr) (c : Nat) (w : World) (d : MD w w.heap.size h m) (hl : x.machines.length ≤ 9223372036854775807) (hI : Ints w w.heap.size A x.machines) :
    Calls Tryz.prog 190 #[.agg #[.slice h.s m.sT.length h.sc, .slice h.f m.fT.length h.fc, .slice h.r m.rT.length h.rc, .slice h.m m.mT.length h.mc, .slice h.l m.lT.length h.lc, .slice h.i m.iT.length h.ic, .int .i64 m.dT, .int .i64 m.oT, .int .i64 m.vT, .int .i64 m.aT, .slice h.u m.uT.length h.uc], .agg #[.int .i64 x.kind, .int .i64 x.item, .int .i64 x.other, .int .i64 x.n, .int .i64 x.by_, .bool x.always, .slice A x.machines.length c]] w fun e w' => e = .returned (.bool (okK m 3 x)) ∧ Below w.heap.size w w' := by
 have l0 := d.il
 have l1 := d.ml
 obtain ⟨kd, it, ot, n, bY, al, ms⟩ := x
 simp only at hl hI ⊢
 have HB0 := hide (two_boxes2 w #[.slice h.s m.sT.length h.sc, .slice h.f m.fT.length h.fc, .slice h.r m.rT.length h.rc, .slice h.m m.mT.length h.mc, .slice h.l m.lT.length h.lc, .slice h.i m.iT.length h.ic, .int .i64 m.dT, .int .i64 m.oT, .int .i64 m.vT, .int .i64 m.aT, .slice h.u m.uT.length h.uc] #[.int .i64 kd, .int .i64 it, .int .i64 ot, .int .i64 n, .int .i64 bY, .bool al, .slice A ms.length c] 32 62)
 have HB1 := hide (HB0.out.alloc HB0.out.size (.cells #[.slice h.s m.sT.length h.sc, .slice h.f m.fT.length h.fc, .slice h.r m.rT.length h.rc, .slice h.m m.mT.length h.mc, .slice h.l m.lT.length h.lc, .slice h.i m.iT.length h.ic, .int .i64 m.dT, .int .i64 m.oT, .int .i64 m.vT, .int .i64 m.aT, .slice h.u m.uT.length h.uc] 32))
 have HI := hide (hI.grow HB1.out)
 cases e0 : exI it m.iT.length
 · have HR := hide (show okK m 3 ⟨kd, it, ot, n, bY, al, ms⟩ = false by simp [okK, e0])
   clear d
   go_enter Tryz.func190, Tryz.ntmps190
   go_wp2_with (first
    | (go_at_call 184; refine (item_prog h m _ _ l0).mono ?_; rintro e w2 ⟨rfl, rfl⟩))
   go_ret
   exact ⟨ret_congr (by rw [HR.out]; rfl), HB1.out⟩
 · have HR := hide (show okK m 3 ⟨kd, it, ot, n, bY, al, ms⟩ = incB m.mT.length ms by simp [okK, e0])
   clear d
   go_enter Tryz.func190, Tryz.ntmps190
   go_wp2_with (first
    | (go_at_call 184; refine (item_prog h m _ _ l0).mono ?_; rintro e w2 ⟨rfl, rfl⟩)
    | (go_at_call 131; refine (machines_prog h m A c ms _ hl l1 HI.out).mono ?_; rintro e w3 ⟨rfl, hb3⟩))
   go_ret
   exact ⟨ret_congr (by rw [HR.out]; rfl), HB1.out.trans (hb3.mono HB1.out.size)⟩
theorem ok_4 (h : MH) (m : Mod) (x : RuleM) (A : Option Addr) (c : Nat) (w : World) (d : MD w w.heap.size h m) (hl : x.machines.length ≤ 9223372036854775807) (hI : Ints w w.heap.size A x.machines) :
    Calls Tryz.prog 192 #[.agg #[.slice h.s m.sT.length h.sc, .slice h.f m.fT.length h.fc, .slice h.r m.rT.length h.rc, .slice h.m m.mT.length h.mc, .slice h.l m.lT.length h.lc, .slice h.i m.iT.length h.ic, .int .i64 m.dT, .int .i64 m.oT, .int .i64 m.vT, .int .i64 m.aT, .slice h.u m.uT.length h.uc], .agg #[.int .i64 x.kind, .int .i64 x.item, .int .i64 x.other, .int .i64 x.n, .int .i64 x.by_, .bool x.always, .slice A x.machines.length c]] w fun e w' => e = .returned (.bool (okK m 4 x)) ∧ Below w.heap.size w w' := by
 have l0 := d.il
 have l1 := d.ml
 obtain ⟨kd, it, ot, n, bY, al, ms⟩ := x
 simp only at hl hI ⊢
 have HB0 := hide (two_boxes2 w #[.slice h.s m.sT.length h.sc, .slice h.f m.fT.length h.fc, .slice h.r m.rT.length h.rc, .slice h.m m.mT.length h.mc, .slice h.l m.lT.length h.lc, .slice h.i m.iT.length h.ic, .int .i64 m.dT, .int .i64 m.oT, .int .i64 m.vT, .int .i64 m.aT, .slice h.u m.uT.length h.uc] #[.int .i64 kd, .int .i64 it, .int .i64 ot, .int .i64 n, .int .i64 bY, .bool al, .slice A ms.length c] 32 62)
 have HB1 := hide (HB0.out.alloc HB0.out.size (.cells #[.slice h.s m.sT.length h.sc, .slice h.f m.fT.length h.fc, .slice h.r m.rT.length h.rc, .slice h.m m.mT.length h.mc, .slice h.l m.lT.length h.lc, .slice h.i m.iT.length h.ic, .int .i64 m.dT, .int .i64 m.oT, .int .i64 m.vT, .int .i64 m.aT, .slice h.u m.uT.length h.uc] 32))
 clear d hI hl
 have HB2 := hide (HB1.out.alloc HB1.out.size (.cells #[.slice h.s m.sT.length h.sc, .slice h.f m.fT.length h.fc, .slice h.r m.rT.length h.rc, .slice h.m m.mT.length h.mc, .slice h.l m.lT.length h.lc, .slice h.i m.iT.length h.ic, .int .i64 m.dT, .int .i64 m.oT, .int .i64 m.vT, .int .i64 m.aT, .slice h.u m.uT.length h.uc] 32))
 by_cases e2 : it = ot
 · subst e2
   have HR := hide (show okK m 4 ⟨kd, it, it, n, bY, al, ms⟩ = false by simp [okK])
   have g3 : (it != it) = false := by simp
   cases e0 : exI it m.iT.length
   all_goals
    go_enter Tryz.func192, Tryz.ntmps192
    go_wp2_with (first
    | (go_at_call 184; refine (item_prog h m _ _ l0).mono ?_; rintro e w2 ⟨rfl, rfl⟩) | (go_at_call 69; refine (within_prog _ _ _ _).mono ?_; rintro e w2 ⟨rfl, rfl⟩))
    go_ret
    exact ⟨ret_congr (by rw [HR.out]; rfl), by first | exact HB2.out | exact HB1.out | exact HB0.out⟩
 · have HR := hide (show okK m 4 ⟨kd, it, ot, n, bY, al, ms⟩ = (exI it m.iT.length && exI ot m.iT.length) by simp [okK, e2])
   have g3 : (it != ot) = true := by simpa using e2
   clear e2
   cases e0 : exI it m.iT.length <;> cases e1 : exI ot m.iT.length
   all_goals
    go_enter Tryz.func192, Tryz.ntmps192
    go_wp2_with (first
    | (go_at_call 184; refine (item_prog h m _ _ l0).mono ?_; rintro e w2 ⟨rfl, rfl⟩) | (go_at_call 69; refine (within_prog _ _ _ _).mono ?_; rintro e w2 ⟨rfl, rfl⟩))
    go_ret
    exact ⟨ret_congr (by rw [HR.out, e0, e1]; rfl), by first | exact HB2.out | exact HB1.out | exact HB0.out⟩
theorem ok_5 (h : MH) (m : Mod) (x : RuleM) (A : Option Addr) (c : Nat) (w : World) (d : MD w w.heap.size h m) (hl : x.machines.length ≤ 9223372036854775807) (hI : Ints w w.heap.size A x.machines) :
    Calls Tryz.prog 194 #[.agg #[.slice h.s m.sT.length h.sc, .slice h.f m.fT.length h.fc, .slice h.r m.rT.length h.rc, .slice h.m m.mT.length h.mc, .slice h.l m.lT.length h.lc, .slice h.i m.iT.length h.ic, .int .i64 m.dT, .int .i64 m.oT, .int .i64 m.vT, .int .i64 m.aT, .slice h.u m.uT.length h.uc], .agg #[.int .i64 x.kind, .int .i64 x.item, .int .i64 x.other, .int .i64 x.n, .int .i64 x.by_, .bool x.always, .slice A x.machines.length c]] w fun e w' => e = .returned (.bool (okK m 5 x)) ∧ Below w.heap.size w w' := by
 have l0 := d.il
 have l1 := d.ml
 obtain ⟨kd, it, ot, n, bY, al, ms⟩ := x
 simp only at hl hI ⊢
 have HB0 := hide (two_boxes2 w #[.slice h.s m.sT.length h.sc, .slice h.f m.fT.length h.fc, .slice h.r m.rT.length h.rc, .slice h.m m.mT.length h.mc, .slice h.l m.lT.length h.lc, .slice h.i m.iT.length h.ic, .int .i64 m.dT, .int .i64 m.oT, .int .i64 m.vT, .int .i64 m.aT, .slice h.u m.uT.length h.uc] #[.int .i64 kd, .int .i64 it, .int .i64 ot, .int .i64 n, .int .i64 bY, .bool al, .slice A ms.length c] 32 62)
 have HB1 := hide (HB0.out.alloc HB0.out.size (.cells #[.slice h.s m.sT.length h.sc, .slice h.f m.fT.length h.fc, .slice h.r m.rT.length h.rc, .slice h.m m.mT.length h.mc, .slice h.l m.lT.length h.lc, .slice h.i m.iT.length h.ic, .int .i64 m.dT, .int .i64 m.oT, .int .i64 m.vT, .int .i64 m.aT, .slice h.u m.uT.length h.uc] 32))
 clear d hI hl
 have HK := hide (show okK m 5 ⟨kd, it, ot, n, bY, al, ms⟩ = (wiI n 0 200) from rfl)
 cases e1 : wiI n 0 200
 all_goals
  go_enter Tryz.func194, Tryz.ntmps194
  go_wp2_with (first
  | (go_at_call 184; refine (item_prog h m _ _ l0).mono ?_; rintro e w2 ⟨rfl, rfl⟩) | (go_at_call 69; refine (within_prog _ _ _ _).mono ?_; rintro e w2 ⟨rfl, rfl⟩))
  go_ret
  exact ⟨ret_congr (by rw [HK.out, e1]; rfl), by first | exact HB1.out | exact HB0.out⟩
theorem ok_6 (h : MH) (m : Mod) (x : RuleM) (A : Option Addr) (c : Nat) (w : World) (d : MD w w.heap.size h m) (hl : x.machines.length ≤ 9223372036854775807) (hI : Ints w w.heap.size A x.machines) :
    Calls Tryz.prog 196 #[.agg #[.slice h.s m.sT.length h.sc, .slice h.f m.fT.length h.fc, .slice h.r m.rT.length h.rc, .slice h.m m.mT.length h.mc, .slice h.l m.lT.length h.lc, .slice h.i m.iT.length h.ic, .int .i64 m.dT, .int .i64 m.oT, .int .i64 m.vT, .int .i64 m.aT, .slice h.u m.uT.length h.uc], .agg #[.int .i64 x.kind, .int .i64 x.item, .int .i64 x.other, .int .i64 x.n, .int .i64 x.by_, .bool x.always, .slice A x.machines.length c]] w fun e w' => e = .returned (.bool (okK m 6 x)) ∧ Below w.heap.size w w' := by
 have l0 := d.il
 have l1 := d.ml
 obtain ⟨kd, it, ot, n, bY, al, ms⟩ := x
 simp only at hl hI ⊢
 have HB0 := hide (two_boxes2 w #[.slice h.s m.sT.length h.sc, .slice h.f m.fT.length h.fc, .slice h.r m.rT.length h.rc, .slice h.m m.mT.length h.mc, .slice h.l m.lT.length h.lc, .slice h.i m.iT.length h.ic, .int .i64 m.dT, .int .i64 m.oT, .int .i64 m.vT, .int .i64 m.aT, .slice h.u m.uT.length h.uc] #[.int .i64 kd, .int .i64 it, .int .i64 ot, .int .i64 n, .int .i64 bY, .bool al, .slice A ms.length c] 32 62)
 have HB1 := hide (HB0.out.alloc HB0.out.size (.cells #[.slice h.s m.sT.length h.sc, .slice h.f m.fT.length h.fc, .slice h.r m.rT.length h.rc, .slice h.m m.mT.length h.mc, .slice h.l m.lT.length h.lc, .slice h.i m.iT.length h.ic, .int .i64 m.dT, .int .i64 m.oT, .int .i64 m.vT, .int .i64 m.aT, .slice h.u m.uT.length h.uc] 32))
 clear d hI hl
 have HK := hide (show okK m 6 ⟨kd, it, ot, n, bY, al, ms⟩ = (exI it m.iT.length && wiI n 0 16) from rfl)
 cases e0 : exI it m.iT.length <;> cases e1 : wiI n 0 16
 all_goals
  go_enter Tryz.func196, Tryz.ntmps196
  go_wp2_with (first
  | (go_at_call 184; refine (item_prog h m _ _ l0).mono ?_; rintro e w2 ⟨rfl, rfl⟩) | (go_at_call 69; refine (within_prog _ _ _ _).mono ?_; rintro e w2 ⟨rfl, rfl⟩))
  go_ret
  exact ⟨ret_congr (by rw [HK.out, e0, e1]; rfl), by first | exact HB1.out | exact HB0.out⟩
end Go.Proofs.YtcfogipaadhbeaaGreatDoor
