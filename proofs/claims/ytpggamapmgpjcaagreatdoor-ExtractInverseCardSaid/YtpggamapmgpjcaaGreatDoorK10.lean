/- Plain: moves, choices and steps of a model (chapters 23, 26, 27). Conditions: none. Rows of moves, steps and choices. Conditions: none. The model's box while memory grows. Conditions: none. -/
import Derived.Test.YtpggamapmgpjcaaGreatDoorK09
import Derived.Test.YtpggamapmgpjcaaGreatDoorK01
import Derived.Test.YtpggamapmgpjcaaGreatDoorK04
import Derived.Test.YtpggamapmgpjcaaGreatDoorK03
import Derived.Deep.MidRow

namespace Go.Proofs.YtpggamapmgpjcaaGreatDoor
open Go Go.RowKit Go.Proofs

/-- a move: item, from, to; a step: start, move; a choice: number of the move, start -/
abbrev MvM := Int × Int × Int
abbrev StM := Int × MvM
abbrev ChM := Int × Int
/-- a choice with its move and its end -/
abbrev ChX := ChM × MvM × Int
def joinsB (a b : Int) (x : LinkM) : Bool := (decide (x.a = a) && decide (x.b = b)) || (decide (x.a = b) && decide (x.b = a))
def linkI (m : Mod) (a b : Int) : Int := if a = b then 0 else 1 + firstI (joinsB a b) m.links
def srcI (y : ItemM) (f : Int) : Int := if f = 0 then y.on.headD 0 else f
def onB (y : ItemM) (n : Int) : Bool := decide (n ∈ y.on)
def freeB (m : Mod) (y : ItemM) (n : Int) : Bool := exI n m.machs.length && (!onB y n && decide (domI m 4 n ≠ m.dark))
def shapeB (m : Mod) (y : ItemM) (f t : Int) : Bool := if y.kind = 1 then (decide (f = 0) && freeB m y t) || (onB y f && decide (t = 0)) else onB y f && freeB m y t
def apartB (m : Mod) (y : ItemM) (f t : Int) : Bool := decide (t ≠ 0) && (decide (0 < y.size) && decide (domI m 4 (srcI y f) ≠ domI m 4 t))
def linkY (m : Mod) (y : ItemM) (f t : Int) : Int := linkI m (domI m 4 (srcI y f)) (domI m 4 t)
def fitY (m : Mod) (y : ItemM) (f t : Int) : Bool := shapeB m y f t && (!apartB m y f t || decide (0 < linkY m y f t))
def itemAt (m : Mod) (n : Int) : Option ItemM := if exI n m.items.length then m.items[(n - 1).toNat]? else none
/-- a move is valid for a valid model -/
def fitB (m : Mod) (x : MvM) : Bool := match itemAt m x.1 with | some y => fitY m y x.2.1 x.2.2 | none => false
def durY (y : ItemM) (t : Int) : Int := if t = 0 then 1 else max 1 ((y.size + y.share - 1) / y.share)
def durB (m : Mod) (x : MvM) : Int := match itemAt m x.1 with | some y => durY y x.2.2 | none => 0
theorem itemAt_yes {m : Mod} {a : Nat} (ha : a < m.items.length) : itemAt m ((a : Int) + 1) = some m.items[a] := by
  have h1 : exI ((a : Int) + 1) m.items.length = true := by simp only [exI, Bool.and_eq_true, decide_eq_true_eq]; omega
  have h2 : ((a : Int) + 1 - 1).toNat = a := by omega
  rw [itemAt, if_pos h1, h2, List.getElem?_eq_getElem ha]
theorem itemAt_no {m : Mod} {n : Int} (h : exI n m.items.length = false) : itemAt m n = none := by rw [itemAt, if_neg (by simp [h])]
theorem exI_yes {n : Int} {l : Nat} (h : exI n l = true) : ∃ a : Nat, a < l ∧ n = (a : Int) + 1 := by
  simp only [exI, Bool.and_eq_true, decide_eq_true_eq] at h
  exact ⟨(n - 1).toNat, by omega, by omega⟩
theorem fitB_yes {m : Mod} {a : Nat} (ha : a < m.items.length) (f t : Int) : fitB m ((a : Int) + 1, f, t) = fitY m m.items[a] f t := by rw [fitB, itemAt_yes ha]
theorem durB_yes {m : Mod} {a : Nat} (ha : a < m.items.length) (f t : Int) : durB m ((a : Int) + 1, f, t) = durY m.items[a] t := by rw [durB, itemAt_yes ha]
theorem firstI_lo {α : Type} (p : α → Bool) (l : List α) : -1 ≤ firstI p l ∧ firstI p l < l.length := by
  unfold firstI
  cases h : l.findIdx? p with
  | none => simp; omega
  | some k =>
    have := (List.findIdx?_eq_some_iff_getElem.1 h).1
    simp; omega
theorem linkI_in (m : Mod) (a b : Int) : 0 ≤ linkI m a b ∧ linkI m a b ≤ m.links.length := by
  unfold linkI
  split
  · omega
  · have := firstI_lo (joinsB a b) m.links; omega
/-- what validity says of an item -/
theorem valid_itm {m : Mod} (hv : validM m = true) {y : ItemM} (hy : y ∈ m.items) : (y.kind = 0 ∨ y.kind = 1 ∨ y.kind = 2) ∧ 0 < y.on.length ∧ (∀ n ∈ y.on, 1 ≤ n ∧ n ≤ m.machs.length) ∧ 0 ≤ y.size ∧ y.size ≤ 1048576 ∧ 1 ≤ y.share ∧ y.share ≤ 1048576 := by
  have hk := valid_kind hv hy
  have ho := ok_item hv hy
  simp only [itemOk, incB, wiI, Bool.and_eq_true, decide_eq_true_eq] at ho
  obtain ⟨⟨⟨⟨⟨h1, h2⟩, h3⟩, h4⟩, h5⟩, h6⟩ := ho
  refine ⟨hk, h1, fun n hn => ?_, h4.1, h4.2, h5.1, h5.2⟩
  obtain ⟨i, hi, rfl⟩ := List.getElem_of_mem hn
  have := (h2 i hi).1
  simp only [exI, Bool.and_eq_true, decide_eq_true_eq] at this
  exact this
theorem onB_zero {m : Mod} (hv : validM m = true) {y : ItemM} (hy : y ∈ m.items) : onB y 0 = false := by
  have := (valid_itm hv hy).2.2.1
  simp only [onB, decide_eq_false_iff_not]
  intro h
  have := this 0 h
  omega
theorem freeB_zero {m : Mod} {y : ItemM} : freeB m y 0 = false := by simp [freeB, exI]
theorem durY_in {m : Mod} (hv : validM m = true) {y : ItemM} (hy : y ∈ m.items) (t : Int) : 1 ≤ durY y t ∧ durY y t ≤ 2097152 := by
  obtain ⟨_, _, _, h1, h2, h3, h4⟩ := valid_itm hv hy
  unfold durY
  split
  · omega
  · have : (y.size + y.share - 1) / y.share ≤ y.size + y.share - 1 := Int.ediv_le_self _ (by omega)
    omega
/-! Candidates -/
def rowT (m : Mod) (i f k : Nat) : List MvM := (List.range k).flatMap fun (t : Nat) => if fitB m ((i : Int) + 1, (f : Int), (t : Int)) then [((i : Int) + 1, (f : Int), (t : Int))] else []
def rowF (m : Mod) (i k : Nat) : List MvM := (List.range k).flatMap fun f => rowT m i f (m.machs.length + 1)
def candTo (m : Mod) (k : Nat) : List MvM := (List.range k).flatMap fun i => rowF m i (m.machs.length + 1)
def candM (m : Mod) : List MvM := candTo m m.items.length
theorem rowT_succ (m : Mod) (i f k : Nat) : rowT m i f (k + 1) = rowT m i f k ++ if fitB m ((i : Int) + 1, (f : Int), (k : Int)) then [((i : Int) + 1, (f : Int), (k : Int))] else [] := by
  simp [rowT, List.range_succ]
theorem rowF_succ (m : Mod) (i k : Nat) : rowF m i (k + 1) = rowF m i k ++ rowT m i k (m.machs.length + 1) := by simp [rowF, List.range_succ]
theorem candTo_succ (m : Mod) (k : Nat) : candTo m (k + 1) = candTo m k ++ rowF m k (m.machs.length + 1) := by simp [candTo, List.range_succ]
theorem rowT_len (m : Mod) (i f k : Nat) : (rowT m i f k).length ≤ k := by
  induction k with
  | zero => simp [rowT]
  | succ k ih => rw [rowT_succ, List.length_append]; split <;> simp <;> omega
theorem rowF_len (m : Mod) (i k : Nat) : (rowF m i k).length ≤ k * (m.machs.length + 1) := by
  induction k with
  | zero => simp [rowF]
  | succ k ih => rw [rowF_succ, List.length_append, Nat.add_mul]; have := rowT_len m i k (m.machs.length + 1); omega
theorem candTo_len (m : Mod) (k : Nat) : (candTo m k).length ≤ k * ((m.machs.length + 1) * (m.machs.length + 1)) := by
  induction k with
  | zero => simp [candTo]
  | succ k ih => rw [candTo_succ, List.length_append, Nat.add_mul]; have := rowF_len m k (m.machs.length + 1); omega
theorem cand_sizes {m : Mod} (hv : validM m = true) {i f t : Nat} (hi : i ≤ m.items.length) (hf : f ≤ m.machs.length + 1) (ht : t ≤ m.machs.length + 1) : (candTo m i ++ (rowF m i f ++ rowT m i f t)).length ≤ 3000 := by
  obtain ⟨s1, _, s3, _⟩ := valid_sizes hv
  have h1 := candTo_len m i
  have h2 := rowF_len m i f
  have h3 := rowT_len m i f t
  have h4 : i * ((m.machs.length + 1) * (m.machs.length + 1)) ≤ 8 * (17 * 17) := Nat.mul_le_mul (by omega) (Nat.mul_le_mul (by omega) (by omega))
  have h5 : f * (m.machs.length + 1) ≤ 17 * 17 := Nat.mul_le_mul (by omega) (by omega)
  simp only [List.length_append]
  omega
theorem cand_len {m : Mod} (hv : validM m = true) : (candM m).length ≤ 3000 := by
  have := cand_sizes hv (i := m.items.length) (f := 0) (t := 0) (Nat.le_refl _) (by omega) (by omega)
  simp only [rowF, rowT, List.range_zero, List.flatMap_nil, List.append_nil] at this
  exact this
theorem mem_cand {m : Mod} {x : MvM} : x ∈ candM m ↔ ∃ i f t : Nat, i < m.items.length ∧ f < m.machs.length + 1 ∧ t < m.machs.length + 1 ∧ fitB m ((i : Int) + 1, (f : Int), (t : Int)) = true ∧ x = ((i : Int) + 1, (f : Int), (t : Int)) := by
  simp only [candM, candTo, rowF, rowT, List.mem_flatMap, List.mem_range]
  constructor
  · rintro ⟨i, hi, f, hf, t, ht, hx⟩
    split at hx
    · rename_i hfit
      exact ⟨i, f, t, hi, hf, ht, hfit, by simpa using hx⟩
    · simp at hx
  · rintro ⟨i, f, t, hi, hf, ht, hfit, rfl⟩
    exact ⟨i, hi, f, hf, t, ht, by simp [hfit]⟩
theorem cand_fit {m : Mod} {x : MvM} (hx : x ∈ candM m) : fitB m x = true := by
  obtain ⟨i, f, t, _, _, _, h, rfl⟩ := mem_cand.1 hx
  exact h
theorem cand_item {m : Mod} {x : MvM} (hx : x ∈ candM m) : ∃ a : Nat, a < m.items.length ∧ x.1 = (a : Int) + 1 := by
  obtain ⟨i, f, t, hi, _, _, _, rfl⟩ := mem_cand.1 hx
  exact ⟨i, hi, rfl⟩
/-- every valid move of a valid model is a candidate -/
theorem fit_cand {m : Mod} (hv : validM m = true) {x : MvM} (hx : fitB m x = true) : x ∈ candM m := by
  obtain ⟨n, f, t⟩ := x
  cases he : exI n m.items.length with
  | false => rw [fitB, itemAt_no he] at hx; cases hx
  | true =>
    obtain ⟨a, ha, rfl⟩ := exI_yes he
    rw [fitB_yes ha] at hx
    have hy : m.items[a] ∈ m.items := List.getElem_mem ha
    obtain ⟨_, _, hon, _⟩ := valid_itm hv hy
    have hx2 := hx
    simp only [fitY, Bool.and_eq_true] at hx2
    have hs := hx2.1
    have hof : ∀ n, onB m.items[a] n = true → 1 ≤ n ∧ n ≤ m.machs.length := fun n hn => hon n (by simpa [onB] using hn)
    have hfr : ∀ n, freeB m m.items[a] n = true → 1 ≤ n ∧ n ≤ m.machs.length := fun n hn => by
      simp only [freeB, exI, Bool.and_eq_true, decide_eq_true_eq] at hn
      exact hn.1
    have hb : (0 ≤ f ∧ f ≤ m.machs.length) ∧ (0 ≤ t ∧ t ≤ m.machs.length) := by
      unfold shapeB at hs
      split at hs
      · simp only [Bool.or_eq_true, Bool.and_eq_true, decide_eq_true_eq] at hs
        rcases hs with ⟨h1, h2⟩ | ⟨h1, h2⟩
        · have := hfr t h2; omega
        · have := hof f h1; omega
      · simp only [Bool.and_eq_true] at hs
        have := hof f hs.1
        have := hfr t hs.2
        omega
    refine mem_cand.2 ⟨a, f.toNat, t.toNat, ha, by omega, by omega, ?_, ?_⟩
    · rw [show ((f.toNat : Nat) : Int) = f by omega, show ((t.toNat : Nat) : Int) = t by omega, fitB_yes ha]
      exact hx
    · rw [show ((f.toNat : Nat) : Int) = f by omega, show ((t.toNat : Nat) : Int) = t by omega]
theorem cand_nodup (m : Mod) : (candM m).Nodup := by
  have hT : ∀ i f k, (rowT m i f k).Pairwise (· ≠ ·) := fun i f k => by
    rw [rowT, List.pairwise_flatMap]
    refine ⟨fun t _ => by split <;> simp, ?_⟩
    refine List.Pairwise.imp ?_ List.nodup_range
    intro a b hab x hx y hy
    split at hx <;> split at hy <;> simp at hx hy
    subst hx hy
    intro e
    injection e with _ e
    injection e with _ e
    omega
  have hF : ∀ i k, (rowF m i k).Pairwise (· ≠ ·) := fun i k => by
    rw [rowF, List.pairwise_flatMap]
    refine ⟨fun f _ => hT i f _, ?_⟩
    refine List.Pairwise.imp ?_ List.nodup_range
    intro a b hab x hx y hy
    simp only [rowT, List.mem_flatMap] at hx hy
    obtain ⟨t, _, hx⟩ := hx
    obtain ⟨s, _, hy⟩ := hy
    split at hx <;> split at hy <;> simp at hx hy
    subst hx hy
    intro e
    injection e with _ e
    injection e with e _
    omega
  rw [List.Nodup, candM, candTo, List.pairwise_flatMap]
  refine ⟨fun i _ => hF i _, ?_⟩
  refine List.Pairwise.imp ?_ List.nodup_range
  intro a b hab x hx y hy
  simp only [rowF, rowT, List.mem_flatMap] at hx hy
  obtain ⟨_, _, t, _, hx⟩ := hx
  obtain ⟨_, _, s, _, hy⟩ := hy
  split at hx <;> split at hy <;> simp at hx hy
  subst hx hy
  intro e
  injection e with e _
  omega
/-- what Candidates answers -/
def candR (m : Mod) : List MvM × Int := if validM m = false then ([], 1) else if 200 < (candM m).length then ([], 8) else (candM m, 0)
/-! Choices -/
/-- the number of starts of a move -/
def nSt (m : Mod) (x : MvM) : Nat := (m.slots - durB m x + 1).toNat
def chRow (m : Mod) (j k : Nat) (x : MvM) : List ChX := (List.range k).map fun (s : Nat) => (((j : Int), (s : Int)), x, (s : Int) + durB m x)
def chTo (m : Mod) (k : Nat) : List ChX := (List.range k).flatMap fun j => match (candM m)[j]? with | some x => chRow m j (nSt m x) x | none => []
def chM (m : Mod) : List ChX := chTo m (candM m).length
theorem chRow_succ (m : Mod) (j k : Nat) (x : MvM) : chRow m j (k + 1) x = chRow m j k x ++ [(((j : Int), (k : Int)), x, (k : Int) + durB m x)] := by simp [chRow, List.range_succ]
theorem chTo_succ (m : Mod) {k : Nat} (hk : k < (candM m).length) : chTo m (k + 1) = chTo m k ++ chRow m k (nSt m (candM m)[k]) (candM m)[k] := by simp [chTo, List.range_succ, hk]
theorem chRow_len (m : Mod) (j k : Nat) (x : MvM) : (chRow m j k x).length = k := by simp [chRow]
theorem nSt_le {m : Mod} (hv : validM m = true) {x : MvM} (hx : x ∈ candM m) : nSt m x ≤ 16 := by
  obtain ⟨a, ha, e⟩ := cand_item hx
  obtain ⟨n, f, t⟩ := x
  subst e
  have h1 := (durY_in hv (List.getElem_mem ha) t).1
  simp only [validM, sizesB, wiI, Bool.and_eq_true, decide_eq_true_eq] at hv
  unfold nSt
  rw [durB_yes ha]
  omega
theorem chTo_len {m : Mod} (hv : validM m = true) (k : Nat) (hk : k ≤ (candM m).length) : (chTo m k).length ≤ k * 16 := by
  induction k with
  | zero => simp [chTo]
  | succ k ih =>
    rw [chTo_succ m (by omega), List.length_append, chRow_len]
    have := ih (by omega)
    have := nSt_le hv (List.getElem_mem (show k < (candM m).length by omega))
    omega
theorem ch_len {m : Mod} (hv : validM m = true) : (chM m).length ≤ 48000 := by
  have h1 := chTo_len hv (candM m).length (Nat.le_refl _)
  have h2 := cand_len hv
  unfold chM
  omega
/-- what Choices answers -/
def choR (m : Mod) : List ChM × Int := if (candR m).2 ≠ 0 then ([], (candR m).2) else if 400 < (chM m).length then ([], 8) else ((chM m).map (·.1), 0)
/-- the steps of the choices -/
def stepsM (m : Mod) : List StM := (chM m).map fun c => (c.1.2, c.2.1)
def stepsR (m : Mod) : List StM × Int := if (choR m).2 ≠ 0 then ([], (choR m).2) else (stepsM m, 0)
theorem mem_ch {m : Mod} {c : ChX} : c ∈ chM m ↔ ∃ (j s : Nat) (hj : j < (candM m).length), s < nSt m (candM m)[j] ∧ c = (((j : Int), (s : Int)), (candM m)[j], (s : Int) + durB m (candM m)[j]) := by
  simp only [chM, chTo, List.mem_flatMap, List.mem_range]
  constructor
  · rintro ⟨j, hj, hc⟩
    rw [List.getElem?_eq_getElem hj] at hc
    simp only [chRow, List.mem_map, List.mem_range] at hc
    obtain ⟨s, hs, rfl⟩ := hc
    exact ⟨j, s, hj, hs, rfl⟩
  · rintro ⟨j, s, hj, hs, rfl⟩
    refine ⟨j, hj, ?_⟩
    rw [List.getElem?_eq_getElem hj]
    simp only [chRow, List.mem_map, List.mem_range]
    exact ⟨s, hs, rfl⟩
theorem mem_steps {m : Mod} {x : StM} : x ∈ stepsM m ↔ x.2 ∈ candM m ∧ 0 ≤ x.1 ∧ x.1 + durB m x.2 ≤ m.slots := by
  simp only [stepsM, List.mem_map]
  constructor
  · rintro ⟨c, hc, rfl⟩
    obtain ⟨j, s, hj, hs, rfl⟩ := mem_ch.1 hc
    refine ⟨List.getElem_mem hj, by simp, ?_⟩
    unfold nSt at hs
    show (s : Int) + durB m (candM m)[j] ≤ m.slots
    omega
  · rintro ⟨h1, h2, h3⟩
    obtain ⟨j, hj, e⟩ := List.getElem_of_mem h1
    refine ⟨(((j : Int), x.1), x.2, x.1 + durB m x.2), ?_, rfl⟩
    refine mem_ch.2 ⟨j, x.1.toNat, hj, ?_, ?_⟩
    · unfold nSt; rw [e]; omega
    · rw [show ((x.1.toNat : Nat) : Int) = x.1 by omega, e]
theorem steps_nodup (m : Mod) : (stepsM m).Nodup := by
  rw [stepsM, List.Nodup, List.pairwise_map, chM, chTo, List.pairwise_flatMap]
  refine ⟨fun j _ => ?_, ?_⟩
  · split
    · rw [chRow, List.pairwise_map]
      refine List.Pairwise.imp ?_ List.nodup_range
      intro a b hab e
      injection e with e _
      exact hab (by have := e; dsimp only at this; omega)
    · simp
  · refine List.Pairwise.imp ?_ List.nodup_range
    intro a b hab x hx y hy e
    split at hx
    · rename_i u hu
      split at hy
      · rename_i v hv
        simp only [chRow, List.mem_map] at hx hy
        obtain ⟨s, _, rfl⟩ := hx
        obtain ⟨t, _, rfl⟩ := hy
        injection e with _ e
        dsimp only at e
        rw [List.getElem?_eq_some_iff] at hu hv
        obtain ⟨h1, e1⟩ := hu
        obtain ⟨h2, e2⟩ := hv
        rw [← e1, ← e2] at e
        have hp := List.pairwise_iff_getElem.1 (cand_nodup m)
        rcases Nat.lt_or_gt_of_ne hab with h3 | h3
        · exact hp a b h1 h2 h3 e
        · exact hp b a h2 h1 h3 e.symm
      · cases hy
    · cases hx
theorem steps_len {m : Mod} (hv : validM m = true) : (stepsM m).length ≤ 48000 := by rw [stepsM, List.length_map]; exact ch_len hv
end Go.Proofs.YtpggamapmgpjcaaGreatDoor

namespace Go.Proofs.YtpggamapmgpjcaaGreatDoor
open Go Go.RowKit Go.Proofs

def elMv : El MvM := ⟨51, 3, fun x => [.int .i64 x.1, .int .i64 x.2.1, .int .i64 x.2.2], fun _ => rfl, by intro x u hu; simp at hu; rcases hu with rfl | rfl | rfl <;> rfl, by decide⟩
def elSt : El StM := ⟨53, 4, fun x => [.int .i64 x.1, .int .i64 x.2.1, .int .i64 x.2.2.1, .int .i64 x.2.2.2], fun _ => rfl, by intro x u hu; simp at hu; rcases hu with rfl | rfl | rfl | rfl <;> rfl, by decide⟩
def elCh : El ChM := ⟨68, 2, fun x => [.int .i64 x.1, .int .i64 x.2], fun _ => rfl, by intro x u hu; simp at hu; rcases hu with rfl | rfl <;> rfl, by decide⟩
def elCx : El ChX := ⟨70, 6, fun x => [.int .i64 x.1.1, .int .i64 x.1.2, .int .i64 x.2.1.1, .int .i64 x.2.1.2.1, .int .i64 x.2.1.2.2, .int .i64 x.2.2], fun _ => rfl, by intro x u hu; simp at hu; rcases hu with rfl | rfl | rfl | rfl | rfl | rfl <;> rfl, by decide⟩
theorem okMv : ElOk elMv 62 (.agg #[.int .i64 0, .int .i64 0, .int .i64 0]) 24 := ⟨by kernel_rfl, Tryz.underlying62, rfl, by decide⟩
theorem okSt : ElOk elSt 33 (.agg #[.int .i64 0, .int .i64 0, .int .i64 0, .int .i64 0]) 32 := ⟨by kernel_rfl, Tryz.underlying33, rfl, by decide⟩
theorem okCh : ElOk elCh 45 (.agg #[.int .i64 0, .int .i64 0]) 16 := ⟨by kernel_rfl, Tryz.underlying45, rfl, by decide⟩
theorem okCx : ElOk elCx 63 (.agg #[.int .i64 0, .int .i64 0, .int .i64 0, .int .i64 0, .int .i64 0, .int .i64 0]) 48 := ⟨by kernel_rfl, Tryz.underlying63, rfl, by decide⟩
section
variable {w : World} {A : Option Addr}
theorem rd_mv {l : List MvM} (h : RdE elMv w A l) {k : Nat} (hk : k < l.length) : ∃ b off, A = some ⟨b, off, none⟩ ∧ b < w.heap.size ∧ w.cell? ⟨b, off + k * 3, none⟩ = some (.int .i64 l[k].1) ∧ w.cell? ⟨b, off + k * 3 + 1, none⟩ = some (.int .i64 l[k].2.1) ∧ w.cell? ⟨b, off + k * 3 + 2, none⟩ = some (.int .i64 l[k].2.2) := by
  obtain ⟨b, off, e, hb, hc⟩ := h k hk
  exact ⟨b, off, e, hb, hc 0 _ rfl, hc 1 _ rfl, hc 2 _ rfl⟩
theorem rd_st {l : List StM} (h : RdE elSt w A l) {k : Nat} (hk : k < l.length) : ∃ b off, A = some ⟨b, off, none⟩ ∧ b < w.heap.size ∧ w.cell? ⟨b, off + k * 4, none⟩ = some (.int .i64 l[k].1) ∧ w.cell? ⟨b, off + k * 4 + 1, none⟩ = some (.int .i64 l[k].2.1) ∧ w.cell? ⟨b, off + k * 4 + 2, none⟩ = some (.int .i64 l[k].2.2.1) ∧ w.cell? ⟨b, off + k * 4 + 3, none⟩ = some (.int .i64 l[k].2.2.2) := by
  obtain ⟨b, off, e, hb, hc⟩ := h k hk
  exact ⟨b, off, e, hb, hc 0 _ rfl, hc 1 _ rfl, hc 2 _ rfl, hc 3 _ rfl⟩
theorem rd_ch {l : List ChM} (h : RdE elCh w A l) {k : Nat} (hk : k < l.length) : ∃ b off, A = some ⟨b, off, none⟩ ∧ b < w.heap.size ∧ w.cell? ⟨b, off + k * 2, none⟩ = some (.int .i64 l[k].1) ∧ w.cell? ⟨b, off + k * 2 + 1, none⟩ = some (.int .i64 l[k].2) := by
  obtain ⟨b, off, e, hb, hc⟩ := h k hk
  exact ⟨b, off, e, hb, hc 0 _ rfl, hc 1 _ rfl⟩
theorem rd_cx {l : List ChX} (h : RdE elCx w A l) {k : Nat} (hk : k < l.length) : ∃ b off, A = some ⟨b, off, none⟩ ∧ b < w.heap.size ∧ w.cell? ⟨b, off + k * 6, none⟩ = some (.int .i64 l[k].1.1) ∧ w.cell? ⟨b, off + k * 6 + 1, none⟩ = some (.int .i64 l[k].1.2) ∧ w.cell? ⟨b, off + k * 6 + 2, none⟩ = some (.int .i64 l[k].2.1.1) ∧ w.cell? ⟨b, off + k * 6 + 3, none⟩ = some (.int .i64 l[k].2.1.2.1) ∧ w.cell? ⟨b, off + k * 6 + 4, none⟩ = some (.int .i64 l[k].2.1.2.2) ∧ w.cell? ⟨b, off + k * 6 + 5, none⟩ = some (.int .i64 l[k].2.2) := by
  obtain ⟨b, off, e, hb, hc⟩ := h k hk
  exact ⟨b, off, e, hb, hc 0 _ rfl, hc 1 _ rfl, hc 2 _ rfl, hc 3 _ rfl, hc 4 _ rfl, hc 5 _ rfl⟩
end
theorem OwnE_.keepB {α : Type} {E : El α} {B : Nat} {w w' : World} {v : Value} {l : List α} (h : OwnE_ E B w v l) (h3 : ∀ g cur, v.ownBlock = some g → Blk w g E.T cur → Blk w' g E.T cur) : OwnE_ E B w' v l := by
  refine ⟨h.1, ?_⟩
  rcases h.2 with h0 | ⟨g, cap, cur, e, hb, hh, h4⟩
  · exact .inl h0
  · exact .inr ⟨g, cap, cur, e, hb, h3 _ _ (by rw [e]; rfl) hh, h4⟩
end Go.Proofs.YtpggamapmgpjcaaGreatDoor

namespace Go.Proofs.YtpggamapmgpjcaaGreatDoor
open Go Go.RowKit Go.Proofs

/-- the model's box, and growth -/
structure MS (w : World) (M : Array Value) (W : World) : Prop where
  m : Blk W w.heap.size 29 M
  b : Below w.heap.size w W
theorem MS.grow {w : World} {M : Array Value} {W W2 : World} (s : MS w M W) (hb : Below W.heap.size W W2) : MS w M W2 := ⟨s.m.below hb s.m.lt, s.b.trans (hb.mono s.b.size)⟩
theorem MS.drew {w : World} {M : Array Value} {W : World} (s : MS w M W) : MS w M W.drew := ⟨s.m.drew, s.b.drew⟩
theorem MS.cells {w : World} {h : MH} {m : Mod} {W : World} (s : MS w #[.slice h.s m.sites.length h.sc, .slice h.f m.feeds.length h.fc, .slice h.r m.racks.length h.rc, .slice h.m m.machs.length h.mc, .slice h.l m.links.length h.lc, .slice h.i m.items.length h.ic, .int .i64 m.dark, .int .i64 m.slots, .int .i64 m.reserve, .int .i64 m.failures, .slice h.u m.rules.length h.uc] W) : W.cell? ⟨w.heap.size, 0, none⟩ = some (.slice h.s m.sites.length h.sc) ∧ W.cell? ⟨w.heap.size, 1, none⟩ = some (.slice h.f m.feeds.length h.fc) ∧ W.cell? ⟨w.heap.size, 2, none⟩ = some (.slice h.r m.racks.length h.rc) ∧ W.cell? ⟨w.heap.size, 3, none⟩ = some (.slice h.m m.machs.length h.mc) ∧ W.cell? ⟨w.heap.size, 4, none⟩ = some (.slice h.l m.links.length h.lc) ∧ W.cell? ⟨w.heap.size, 5, none⟩ = some (.slice h.i m.items.length h.ic) ∧ W.cell? ⟨w.heap.size, 6, none⟩ = some (.int .i64 m.dark) ∧ W.cell? ⟨w.heap.size, 7, none⟩ = some (.int .i64 m.slots) ∧ W.cell? ⟨w.heap.size, 8, none⟩ = some (.int .i64 m.reserve) ∧ W.cell? ⟨w.heap.size, 9, none⟩ = some (.int .i64 m.failures) ∧ W.cell? ⟨w.heap.size, 10, none⟩ = some (.slice h.u m.rules.length h.uc) := MB.cells s.m
theorem sizeModel : (Tryz.prog.info? 29).map (·.size) = some 11 := by kernel_rfl
theorem model_range {w : World} {bm : Nat} {h : MH} {m : Mod} (d : Blk w bm 29 #[.slice h.s m.sites.length h.sc, .slice h.f m.feeds.length h.fc, .slice h.r m.racks.length h.rc, .slice h.m m.machs.length h.mc, .slice h.l m.links.length h.lc, .slice h.i m.items.length h.ic, .int .i64 m.dark, .int .i64 m.slots, .int .i64 m.reserve, .int .i64 m.failures, .slice h.u m.rules.length h.uc]) : w.rangeAt bm 0 [.slice h.s m.sites.length h.sc, .slice h.f m.feeds.length h.fc, .slice h.r m.racks.length h.rc, .slice h.m m.machs.length h.mc, .slice h.l m.links.length h.lc, .slice h.i m.items.length h.ic, .int .i64 m.dark, .int .i64 m.slots, .int .i64 m.reserve, .int .i64 m.failures, .slice h.u m.rules.length h.uc] := fun j v hv => by
  rw [Nat.zero_add, d.cell]; simpa using hv
theorem range_below {B : Nat} {w w' : World} {b off : Nat} {cs : List Value} (h : w.rangeAt b off cs) (hb : Below B w w') (hlt : b < B) : w'.rangeAt b off cs := fun j v hv => (hb.cell (p := ⟨b, off + j, none⟩) hlt).trans (h j v hv)
end Go.Proofs.YtpggamapmgpjcaaGreatDoor
