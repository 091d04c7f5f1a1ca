/- The walks of the closures 'text' of syntax.forms, part 3: named, plain, keep. Conditions: lengths that fit memory; the tables are laid. -/
import Derived.Test.YtanhkeeifnimgaaGreatDoorSyn17k
namespace Go.Proofs.YtanhkeeifnimgaaGreatDoor
open Go Go.RowKit Go.Proofs

theorem OwnS.mono {B B' : Nat} {w : World} {v : Value} {l : List ByteArray} (h : OwnS B w v l) (hB : B' ≤ B) : OwnS B' w v l := by
  refine ⟨h.1, ?_⟩
  rcases h.2 with h0 | ⟨g, cap, cur, h1, h2, h3⟩
  · exact .inl h0
  · exact .inr ⟨g, cap, cur, h1, Nat.le_trans hB h2, h3⟩
theorem clone_strs (A : Option Addr) (c : Nat) (l : List ByteArray) (w : World) (hl : l.length ≤ 1099511627776) (h : Strs w w.heap.size A l) :
    Calls Tryz.prog 61 #[.slice A l.length c] w fun e w' => ∃ v, e = .returned v ∧ OwnS w.heap.size w' v l ∧ Below w.heap.size w w' := by
  by_cases hn : l = []
  · subst hn
    cases A with
    | none => exact (Tryz.slices_Clone_string_nil 0 c w).mono fun e w' ⟨he, hw⟩ => ⟨_, he, OwnS.nil_ _ _, hw ▸ Below.refl _ _⟩
    | some a => exact (Tryz.slices_Clone_string_zero a c w).mono fun e w' ⟨v, he, ho, _, hb⟩ => ⟨v, he, ho, hb⟩
  · obtain ⟨b, off, rfl, hb, hc⟩ := h.form hn
    exact (Tryz.slices_Clone_string b off l.length c l w (Nat.le_refl _) (by omega) hc).mono fun e w' ⟨v, he, ho, _, hb⟩ => ⟨v, he, by unfold OwnS; rw [List.take_length] at ho; exact ho, hb⟩

set_option maxHeartbeats 400000 in
theorem text_named (k : Int) (nm : ByteArray) (ra : Option Addr) (rn rc : Nat) (na : Option Addr) (nn nc : Nat) (bY : Int) (al : Bool) (w : World) :
    Calls Tryz.prog 59 #[.agg #[.int .i64 k, .string nm, .slice ra rn rc, .slice na nn nc, .int .i64 bY, .bool al]] w
      fun e w' => ∃ v, e = .returned v ∧ OwnS w.heap.size w' v [nm] ∧ Below w.heap.size w w' := by
  go_enter Tryz.func59, Tryz.ntmps59
  go_wp2
  go_ret
  have hO := OwnS.new (B := w.heap.size) (w.alloc (.cells #[.int .i64 k, .string nm, .slice ra rn rc, .slice na nn nc, .int .i64 bY, .bool al] 25)) [nm] (by simp) (by unfold maxLen; simp)
  rw [show (w.alloc (.cells #[.int .i64 k, .string nm, .slice ra rn rc, .slice na nn nc, .int .i64 bY, .bool al] 25)).heap.size = w.heap.size + 1 by simp] at hO
  exact ⟨_, rfl, hO, ((Below.refl _ _).alloc (Nat.le_refl _) _).alloc (by simp) _⟩

theorem take_snoc {α : Type} (l : List α) (j : Nat) (h : j < l.length) : l.take (j + 1) = l.take j ++ [l[j]] := by
  rw [List.take_succ_eq_append_getElem h]

set_option maxHeartbeats 4000000 in
theorem text_plain (k : Int) (nm : ByteArray) (ra : Option Addr) (refs : List ByteArray) (rc : Nat) (na : Option Addr) (nums : List Int) (nc : Nat) (bY : Int) (al : Bool) (w : World) (hp : Pow w)
    (hr : Strs w w.heap.size ra refs) (hl1 : refs.length ≤ 65536) (hl2 : nums.length ≤ 65536) (hall : nums.all numOk = true) (hn : Ints w w.heap.size na nums) :
    Calls Tryz.prog 60 #[.agg #[.int .i64 k, .string nm, .slice ra refs.length rc, .slice na nums.length nc, .int .i64 bY, .bool al]] w
      fun e w' => ∃ v, e = .returned v ∧ OwnS w.heap.size w' v (refs ++ nums.map itoaS) ∧ Below w.heap.size w w' := by
  have HP := hide hp
  go_enter Tryz.func60, Tryz.ntmps60
  go_wp2_with (go_at_call 61; refine (clone_strs ra rc refs _ (by omega) ((hr.alloc (Nat.le_refl _) _).more (by simp))).mono ?_; rintro e w1 ⟨v1, rfl, hO, hb⟩; have hD := (Blk.new w 25 #[.int .i64 k, .string nm, .slice ra refs.length rc, .slice na nums.length nc, .int .i64 bY, .bool al]).below hb (by simp); have d3 := hD.cell 3; simp at d3)
  have hO1 : OwnS (w.heap.size + 1) w1 v1 refs := by simpa using hO
  have hb1 : Below w.heap.size w w1 := ((Below.refl _ _).alloc (Nat.le_refl _) _).trans (hb.mono (by simp))
  have hs1 : w.heap.size < w1.heap.size := by have := hb.size; simp at this; omega
  clear d3 hO hb
  go_loopw [3, 11] (fun v i wr => ∃ j : Nat, j ≤ nums.length ∧ i = .int .i64 j ∧ OwnS (w.heap.size + 1) wr v (refs ++ (nums.take j).map itoaS) ∧ Below w.heap.size w wr ∧ w.heap.size < wr.heap.size ∧ Blk wr w.heap.size 25 #[.int .i64 k, .string nm, .slice ra refs.length rc, .slice na nums.length nc, .int .i64 bY, .bool al]) (fun _ i _ => nums.length - (intOf i).toNat)
  case atStart => exact ⟨0, Nat.zero_le _, rfl, by simpa using hO1, hb1, hs1, hD⟩
  case round =>
    clear hO1 hb1 hs1 hD
    obtain ⟨j, hj, rfl, hO, hbr, hsz, hD⟩ := hrel
    by_cases hlt : j < nums.length
    · have d0 := hD.cell 0
      have d1 := hD.cell 1
      have d2 := hD.cell 2
      have d3 := hD.cell 3
      have d4 := hD.cell 4
      have d5 := hD.cell 5
      simp at d0 d1 d2 d3 d4 d5
      have HT := hide (take_snoc nums j hlt)
      have hlen : (refs ++ (nums.take j).map itoaS).length ≤ 131072 := by simp; omega
      go_wp2_with (first
        | (go_at_call 62; refine (number_any k nm ra refs.length rc na nums nc bY al _ _ (Pow.below HP.out (Nat.le_refl _) hbr) (by omega) (by simp; omega) hall ((hn.below hbr).more hbr.size)).mono ?_; rintro e w2 ⟨rfl, hb2⟩)
        | (at_builtin; go_must (refine append_strs rfl _ _ rfl (w.heap.size + 1) _ (refs ++ (nums.take j).map itoaS) rfl ((hO.below hb2).alloc _) _ _ 1 [itoaS nums[j]] rfl (Strs.newRow w2 9 [itoaS nums[j]]) (by simp; omega) (by have := hb2.size; simp; omega) ?_); intro v3 w3 hO3 hg3 _))
      have hb02 : Below w.heap.size w w2 := hbr.trans (hb2.mono hbr.size)
      have hlo := hO.lt
      have hg : (w2.alloc (.cells #[.string (itoaS nums[j])] 9)).grownBy w3 u3.ownBlock := hg3
      have hs2 := hb2.size
      have hs3 := hg.size
      simp at hs3
      refine ⟨⟨j + 1, by omega, by go_num, ?_, ?_, by omega, ?_⟩, by simp [intOf]; omega⟩
      · rw [HT.out, List.map_append, ← List.append_assoc]; exact hO3
      · exact (hb02.alloc hb02.size _).grown hg (by simp; omega) (fun q hq => by have := hlo q hq; omega)
      · exact ((hD.below hb2 hsz).alloc _).grown hg (fun e => by have := hlo _ e.symm; omega)
    · have HT := hide (show nums.take j = nums from List.take_of_length_le (by omega))
      go_wp2_with fail
      go_ret
      exact ⟨_, rfl, by have := hO.mono (B' := w.heap.size) (by omega); rw [HT.out] at this; exact this, hbr⟩

def keepW (refs : List ByteArray) (nums : List Int) (al : Bool) : List ByteArray := refs ++ nums.map itoaS ++ (if al then [(⟨#[97, 108, 119, 97, 121, 115]⟩ : ByteArray)] else [])
set_option maxHeartbeats 2000000 in
theorem text_keep (k : Int) (nm : ByteArray) (ra : Option Addr) (refs : List ByteArray) (rc : Nat) (na : Option Addr) (nums : List Int) (nc : Nat) (bY : Int) (al : Bool) (w : World) (B : Nat) (hp : Pow w)
    (hB : B < w.heap.size) (hcell : w.cell? ⟨B, 0, none⟩ = some (.func (.func 60) #[] #[]))
    (hr : Strs w w.heap.size ra refs) (hl1 : refs.length ≤ 65536) (hl2 : nums.length ≤ 65536) (hall : nums.all numOk = true) (hn : Ints w w.heap.size na nums) :
    Calls Tryz.prog 74 #[.agg #[.int .i64 k, .string nm, .slice ra refs.length rc, .slice na nums.length nc, .int .i64 bY, .bool al], .pointer (some ⟨B, 0, none⟩)] w
      fun e w' => ∃ v, e = .returned v ∧ OwnS w.heap.size w' v (keepW refs nums al) ∧ Below w.heap.size w w' := by
  have hc2 : (w.alloc (.cells #[.int .i64 k, .string nm, .slice ra refs.length rc, .slice na nums.length nc, .int .i64 bY, .bool al] 25)).cell? ⟨B, 0, none⟩ = some (.func (.func 60) #[] #[]) := (World.cell?_alloc_lt _ _ _ hB).trans hcell
  have HP := hide hp
  cases al
  · go_enter Tryz.func74, Tryz.ntmps74
    go_wp2_with (go_at_call 60; refine (text_plain k nm ra refs rc na nums nc bY false _ (Pow.below HP.out (Nat.le_refl _) ((Below.refl _ _).alloc (Nat.le_refl _) _)) ((hr.alloc (Nat.le_refl _) _).more (by simp)) hl1 hl2 hall ((hn.alloc (Nat.le_refl _) _).more (by simp))).mono ?_; rintro e w1 ⟨v1, rfl, hO, hb⟩)
    go_ret
    exact ⟨_, rfl, by have := hO.mono (B' := w.heap.size) (by simp); simpa [keepW] using this, ((Below.refl _ _).alloc (Nat.le_refl _) _).trans (hb.mono (by simp))⟩
  · go_enter Tryz.func74, Tryz.ntmps74
    go_wp2_with (first
      | (go_at_call 60; refine (text_plain k nm ra refs rc na nums nc bY true _ (Pow.below HP.out (Nat.le_refl _) ((Below.refl _ _).alloc (Nat.le_refl _) _)) ((hr.alloc (Nat.le_refl _) _).more (by simp)) hl1 hl2 hall ((hn.alloc (Nat.le_refl _) _).more (by simp))).mono ?_; rintro e w1 ⟨v1, rfl, hO, hb⟩; have hO1 := hO.mono (B' := w.heap.size) (by simp))
      | (at_builtin; refine append_strs rfl _ _ rfl w.heap.size v1 (refs ++ nums.map itoaS) rfl (hO1.alloc _) _ _ 1 [(⟨#[97, 108, 119, 97, 121, 115]⟩ : ByteArray)] rfl (Strs.newRow w1 9 [(⟨#[97, 108, 119, 97, 121, 115]⟩ : ByteArray)]) (by simp; omega) (by have := hb.size; simp at this ⊢; omega) ?_; intro v3 w3 hO3 hg3 _))
    go_ret
    have hlo := hO1.lt
    have hg : (w1.alloc (.cells #[.string (⟨#[97, 108, 119, 97, 121, 115]⟩ : ByteArray)] 9)).grownBy w3 v1.ownBlock := hg3
    have hb1 : Below w.heap.size w w1 := ((Below.refl _ _).alloc (Nat.le_refl _) _).trans (hb.mono (by simp))
    exact ⟨_, rfl, hO3, (hb1.alloc hb1.size _).grown hg (by have := hb1.size; simp; omega) (fun q hq => (hlo q hq).1)⟩
end Go.Proofs.YtanhkeeifnimgaaGreatDoor
