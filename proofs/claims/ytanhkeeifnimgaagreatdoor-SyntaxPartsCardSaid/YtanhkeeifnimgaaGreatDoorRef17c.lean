/- The walk of exodusref17.Valid. Conditions: lengths that fit memory. -/
import Derived.Test.YtanhkeeifnimgaaGreatDoorRef17b
namespace Go.Proofs.YtanhkeeifnimgaaGreatDoor
open Go Go.RowKit

/-- every string of a list fits memory -/
def Fit (l : List ByteArray) : Prop := ∀ s ∈ l, s.size ≤ 9223372036854775807
theorem Fit.at_ {l : List ByteArray} (h : Fit l) {k : Nat} (hk : k < l.length) : l[k].size ≤ 9223372036854775807 := h _ (List.getElem_mem _)

def validB (k : Int) (nm : ByteArray) (refs : List ByteArray) (nums : List Int) (bY : Int) (al : Bool) : Bool :=
  shapeB k nm refs.length nums.length bY al && (nm.toList.isEmpty || isName nm) && refs.all isName && nums.all numOk

theorem all_false_at {α : Type} {l : List α} {p : α → Bool} {k : Nat} (hk : k < l.length) (h : p l[k] = false) : l.all p = false := by
  rw [List.all_eq_false]; exact ⟨l[k], List.getElem_mem _, by simp [h]⟩
theorem all_true_of {α : Type} {l : List α} {p : α → Bool} (h : ∀ j (hj : j < l.length), p l[j] = true) : l.all p = true := by
  rw [List.all_eq_true]; intro x hx; obtain ⟨j, hj, rfl⟩ := List.getElem_of_mem hx; exact h j hj

set_option maxHeartbeats 4000000 in
theorem valid_ref (k : Int) (nm : ByteArray) (ra : Option Addr) (refs : List ByteArray) (rc : Nat) (na : Option Addr) (nums : List Int) (nc : Nat) (bY : Int) (al : Bool) (w : World)
    (hs : nm.size ≤ 9223372036854775807) (hf : Fit refs) (hl1 : refs.length ≤ 9223372036854775807) (hl2 : nums.length ≤ 9223372036854775807) (hr : Strs w w.heap.size ra refs) (hn : Ints w w.heap.size na nums) :
    Calls Tryz.prog 9 #[.agg #[.int .i64 k, .string nm, .slice ra refs.length rc, .slice na nums.length nc, .int .i64 bY, .bool al]] w
      fun e w' => e = .returned (.bool (validB k nm refs nums bY al)) ∧ Below w.heap.size w w' := by
  cases h1 : shapeB k nm refs.length nums.length bY al
  · have HV := hide (show validB k nm refs nums bY al = false by simp [validB, h1])
    go_enter Tryz.func9, Tryz.ntmps9
    go_wp2_with ((go_at_call 25; refine (shape_any k nm ra refs.length rc na nums.length nc bY al _).mono ?_; rintro e w1 ⟨rfl, hb⟩; obtain ⟨hc1, _⟩ := bcell hb))
    go_ret
    exact ⟨ret_congr (by rw [HV.out]; rfl), ((Below.refl _ _).alloc (Nat.le_refl _) _).trans (hb.mono (by simp))⟩
  cases h2 : (nm.toList.isEmpty || isName nm)
  · have HV := hide (show validB k nm refs nums bY al = false by simp [validB, h1, h2])
    simp only [Bool.or_eq_false_iff] at h2
    obtain ⟨h2, h3⟩ := h2
    have h2' : (!nm.toList.isEmpty) = true := by simp [h2]
    go_enter Tryz.func9, Tryz.ntmps9
    go_wp2_with (first
      | (go_at_call 25; refine (shape_any k nm ra refs.length rc na nums.length nc bY al _).mono ?_; rintro e w1 ⟨rfl, hb⟩; obtain ⟨hc1, _⟩ := bcell hb)
      | (go_at_call 26; refine (isName_ref nm _ hs).mono ?_; rintro e w2 ⟨rfl, hb2⟩))
    go_ret
    exact ⟨ret_congr (by rw [HV.out]; rfl), ((Below.refl _ _).alloc (Nat.le_refl _) _).trans ((hb.mono (by simp)).trans (hb2.mono (by have := hb.size; simp at this; omega)))⟩
  have hnm : (nm.toList.isEmpty = true) ∨ (nm.toList.isEmpty = false ∧ (!nm.toList.isEmpty) = true ∧ isName nm = true) := by
    cases h3 : nm.toList.isEmpty <;> simp_all
  have H2 := hide h2; clear h2
  rcases hnm with h2 | ⟨h2, h2', h3⟩
  all_goals
    go_enter Tryz.func9, Tryz.ntmps9
    go_wp2_with (first
      | (go_at_call 25; refine (shape_any k nm ra refs.length rc na nums.length nc bY al _).mono ?_; rintro e w1 ⟨rfl, hb⟩; obtain ⟨hc1, _⟩ := bcell hb)
      | (go_at_call 26; refine (isName_ref nm _ hs).mono ?_; rintro e w2 ⟨rfl, hb2⟩))
    first
      | (have hq : ∃ W, W = w2 := ⟨_, rfl⟩
         obtain ⟨W, rfl⟩ := hq
         have hsz : w.heap.size < W.heap.size := by have := hb.size; have := hb2.size; simp at *; omega
         have hbW : Below w.heap.size w W := ((Below.refl _ _).alloc (Nat.le_refl _) _).trans ((hb.mono (by simp)).trans (hb2.mono (by have := hb.size; simp at this; omega)))
         have hc2 : W.cell? ⟨w.heap.size, 2, none⟩ = some (.slice ra refs.length rc) := by
           rw [(bcell hb2).1 _ _ (by have := hb.size; simp at this; omega), hc1 _ _ (by simp)]; exact cell?_new _ _ _ _
         have hc3 : W.cell? ⟨w.heap.size, 3, none⟩ = some (.slice na nums.length nc) := by
           rw [(bcell hb2).1 _ _ (by have := hb.size; simp at this; omega), hc1 _ _ (by simp)]; exact cell?_new _ _ _ _
         clear hb2)
      | (have hq : ∃ W, W = w1 := ⟨_, rfl⟩
         obtain ⟨W, rfl⟩ := hq
         have hsz : w.heap.size < W.heap.size := by have := hb.size; simp at *; omega
         have hbW : Below w.heap.size w W := ((Below.refl _ _).alloc (Nat.le_refl _) _).trans (hb.mono (by simp))
         have hc2 : W.cell? ⟨w.heap.size, 2, none⟩ = some (.slice ra refs.length rc) := by rw [hc1 _ _ (by simp)]; exact cell?_new _ _ _ _
         have hc3 : W.cell? ⟨w.heap.size, 3, none⟩ = some (.slice na nums.length nc) := by rw [hc1 _ _ (by simp)]; exact cell?_new _ _ _ _)
    clear hc1 hb
    have H1 := hide h1; clear h1
    go_loopw [3] (fun i wr => ∃ j : Nat, j ≤ refs.length ∧ i = .int .i64 j ∧ Below w.heap.size w wr ∧ w.heap.size < wr.heap.size ∧ wr.cell? ⟨w.heap.size, 2, none⟩ = some (.slice ra refs.length rc) ∧ wr.cell? ⟨w.heap.size, 3, none⟩ = some (.slice na nums.length nc) ∧ Hid (∀ x (hx : x < refs.length), x < j → isName refs[x] = true)) (fun i _ => refs.length - (intOf i).toNat)
    case atStart => exact ⟨0, Nat.zero_le _, rfl, hbW, hsz, hc2, hc3, fun j hj h0 => absurd h0 (by omega)⟩
    case round =>
      clear hbW hsz hc2 hc3
      obtain ⟨j, hj, rfl, hbr, hsz, hc2, hc3, hnr⟩ := hrel
      by_cases hlt : j < refs.length
      · obtain ⟨ad, rfl, hab, hc⟩ := (hr.below hbr).at_ hlt
        cases hN : isName refs[j]
        · have HV := hide (show validB k nm refs nums bY al = false by simp [validB, all_false_at hlt hN])
          go_wp2_with (go_at_call 26; refine (isName_ref refs[j] _ (hf.at_ hlt)).mono ?_; rintro e w3 ⟨rfl, hb3⟩)
          go_ret
          exact ⟨ret_congr (by rw [HV.out]; rfl), hbr.trans (hb3.mono (by omega))⟩
        · go_wp2_with (go_at_call 26; refine (isName_ref refs[j] _ (hf.at_ hlt)).mono ?_; rintro e w3 ⟨rfl, hb3⟩)
          go_roundw
          case rel => exact ⟨j + 1, by omega, by go_num, hbr.trans (hb3.mono (by omega)), by have := hb3.size; omega, by rw [(bcell hb3).1 _ _ hsz, hc2], by rw [(bcell hb3).1 _ _ hsz, hc3], fun x hx h1 => by
            rcases Nat.lt_or_ge x j with h2 | h2
            · exact hnr x hx h2
            · obtain rfl : x = j := by omega
              exact hN⟩
          case measure => simp [intOf]; omega
      · have hall : refs.all isName = true := all_true_of fun x hx => hnr x hx (by omega)
        have HA := hide hall; clear hall
        go_wp2_with fail
        go_loop [4] (fun i => ∃ j : Nat, j ≤ nums.length ∧ i = .int .i64 j ∧ Hid (∀ x (hx : x < nums.length), x < j → numOk nums[x] = true)) (fun i => nums.length - (intOf i).toNat)
        case atStart => exact ⟨0, Nat.zero_le _, rfl, fun j hj h0 => absurd h0 (by omega)⟩
        case round =>
          obtain ⟨j, hj, rfl, hnr⟩ := hrel
          by_cases hlt : j < nums.length
          · obtain ⟨ad, rfl, hab, hc⟩ := (hn.below hbr).at_ hlt
            by_cases hN : 0 ≤ nums[j] ∧ nums[j] ≤ 1048576
            · obtain ⟨hN1, hN2⟩ := hN
              go_wp2
              go_round
              case rel => exact ⟨j + 1, by omega, by go_num, fun x hx h1 => by
                rcases Nat.lt_or_ge x j with h2 | h2
                · exact hnr x hx h2
                · obtain rfl : x = j := by omega
                  simp [numOk, hN1, hN2]⟩
              case measure => simp [intOf]; omega
            · have hN' : numOk nums[j] = false := by simp [numOk]; omega
              have HV := hide (show validB k nm refs nums bY al = false by simp [validB, all_false_at hlt hN'])
              clear hN'
              by_cases hN1 : nums[j] < 0
              · go_wp2
                go_ret
                exact ⟨ret_congr (by rw [HV.out]; rfl), hbr⟩
              · have hN2 : 1048576 < nums[j] := by omega
                go_wp2
                go_ret
                exact ⟨ret_congr (by rw [HV.out]; rfl), hbr⟩
          · have hall2 : nums.all numOk = true := all_true_of fun x hx => hnr x hx (by omega)
            have HV := hide (show validB k nm refs nums bY al = true by unfold validB; rw [H1.out, H2.out, HA.out, hall2]; rfl)
            clear hall2
            go_wp2
            go_ret
            exact ⟨ret_congr (by rw [HV.out]; rfl), hbr⟩
end Go.Proofs.YtanhkeeifnimgaaGreatDoor
