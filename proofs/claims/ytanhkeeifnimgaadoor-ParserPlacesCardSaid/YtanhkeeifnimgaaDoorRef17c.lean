/- The walks of exodusref15 and exodusref17: what their functions return. Conditions: lengths that fit memory. The walks of exodusref17: form, shape, Valid, Few, KindName, SameDecl, Same. Conditions: lengths that fit memory. The walk of exodusref17.Valid. Conditions: lengths that fit memory. -/
import Derived.Test.YtanhkeeifnimgaaDoorProg
import Derived.Test.YtanhkeeifnimgaaDoorSpec17
import Derived.Deep.RegionHeld3
import Derived.BigQuiet

namespace Go.Proofs.YtanhkeeifnimgaaDoor
open Go Go.RowKit

set_option maxHeartbeats 400000 in
theorem has_any (A : Option Addr) (c : Nat) (l : List ByteArray) (s : ByteArray) (w : World) (hl : l.length ≤ 9223372036854775807) (h : Strs w w.heap.size A l) :
    Calls Tryd.prog 65 #[.slice A l.length c, .string s] w fun e w' => e = .returned (.bool (hasS l s)) ∧ w = w' := by
  go_enter Tryd.func65, Tryd.ntmps65
  go_wp2
  go_loop [5] (fun i => ∃ k : Nat, k ≤ l.length ∧ i = .int .i64 k ∧ ∀ j (hj : j < l.length), j < k → l[j] ≠ s) (fun i => l.length - (intOf i).toNat)
  case atStart => exact ⟨0, Nat.zero_le _, rfl, fun j hj h0 => absurd h0 (by omega)⟩
  case round =>
    obtain ⟨k, hk, rfl, hs⟩ := hrel
    have HS := hide hs; clear hs
    by_cases hlt : k < l.length
    · obtain ⟨ad, rfl, hb, hc⟩ := h.at_ hlt
      by_cases he : l[k] = s
      · have hq := toList_beq_true he
        have hm : hasS l s = true := by rw [hasS_iff, ← he]; exact List.getElem_mem _
        have HE := hide he; clear he
        have HM := hide hm; clear hm
        go_wp2
        go_ret
        exact ⟨ret_congr (by rw [HM.out]; rfl), rfl⟩
      · have hq := toList_beq_false he
        have HE := hide he; clear he
        go_wp2
        go_round
        case rel => exact ⟨k + 1, by omega, by go_num, fun j hj h1 => by
          rcases Nat.lt_or_ge j k with h2 | h2
          · exact HS j hj h2
          · obtain rfl : j = k := by omega
            exact HE⟩
        case measure => simp [intOf]; omega
    · have hm : hasS l s = false := by
        rw [Bool.eq_false_iff, Ne, hasS_iff]
        intro hm; obtain ⟨j, hj, e⟩ := List.getElem_of_mem hm; exact HS j hj (by omega) e
      have HM := hide hm; clear hm
      go_wp2
      go_ret
      exact ⟨ret_congr (by rw [HM.out]; rfl), rfl⟩

set_option maxHeartbeats 400000 in
theorem letter_any (c : Int) (w : World) : Calls Tryd.prog 63 #[.int .u8 c] w fun e w' => e = .returned (.bool (letterI c)) ∧ w = w' := by
  by_cases h1 : 97 ≤ c <;> by_cases h2 : c ≤ 122
  all_goals
    have hL : letterI c = (decide (97 ≤ c) && decide (c ≤ 122)) := rfl
    have HL := hide hL; clear hL
    go_enter Tryd.func63, Tryd.ntmps63
    go_wp2
    go_ret
    exact ⟨ret_congr (by rw [HL.out]; simp [*]), rfl⟩

set_option maxHeartbeats 400000 in
theorem digit_any (c : Int) (w : World) : Calls Tryd.prog 61 #[.int .u8 c] w fun e w' => e = .returned (.bool (digitI c)) ∧ w = w' := by
  by_cases h1 : 48 ≤ c <;> by_cases h2 : c ≤ 57
  all_goals
    have hL : digitI c = (decide (48 ≤ c) && decide (c ≤ 57)) := rfl
    have HL := hide hL; clear hL
    go_enter Tryd.func61, Tryd.ntmps61
    go_wp2
    go_ret
    exact ⟨ret_congr (by rw [HL.out]; simp [*]), rfl⟩

set_option maxHeartbeats 400000 in
theorem keywords_any (w : World) : Calls Tryd.prog 66 #[] w fun e w' => ∃ A, e = .returned (.slice A keywords.length keywords.length) ∧ Strs w' w'.heap.size A keywords ∧ Below w.heap.size w w' := by
  go_enter Tryd.func66, Tryd.ntmps66
  go_wp2
  go_ret
  exact ⟨some ⟨w.heap.size, 0, none⟩, rfl, (Strs.newRow w 9 keywords).more (by simp), (Below.refl _ _).alloc (Nat.le_refl _) _⟩


set_option maxHeartbeats 1000000 in
theorem isName_ref (s : ByteArray) (w : World) (hs : s.size ≤ 9223372036854775807) :
    Calls Tryd.prog 41 #[.string s] w fun e w' => e = .returned (.bool (isName s)) ∧ Below w.heap.size w w' := by
  by_cases h1 : s.size < 1
  · have HN := hide (isName_short h1)
    go_enter Tryd.func41, Tryd.ntmps41
    go_wp2
    go_ret
    exact ⟨ret_congr (by rw [HN.out]; rfl), Below.refl _ _⟩
  by_cases h2 : 31 < s.size
  · have HN := hide (isName_long h2)
    go_enter Tryd.func41, Tryd.ntmps41
    go_wp2
    go_ret
    exact ⟨ret_congr (by rw [HN.out]; rfl), Below.refl _ _⟩
  cases h3 : letterI s[0].toNat
  · have HN := hide (isName_first (by omega) h3)
    go_enter Tryd.func41, Tryd.ntmps41
    go_wp2_with (go_at_call 63; refine (letter_any _ _).mono ?_; rintro e w' ⟨rfl, rfl⟩)
    go_ret
    exact ⟨ret_congr (by rw [HN.out]; rfl), Below.refl _ _⟩
  cases hb : hasS keywords s
  rotate_left
  · have HN := hide (isName_key hb)
    have HB := hide hb
    go_enter Tryd.func41, Tryd.ntmps41
    go_wp2_with (first
      | (go_at_call 63; refine (letter_any _ _).mono ?_; rintro e w' ⟨rfl, rfl⟩)
      | (go_at_call 66; refine (keywords_any _).mono ?_; rintro e w1 ⟨A, rfl, hA, hw1⟩)
      | (go_at_call 65; refine (has_any A _ keywords s _ (by decide) hA).mono ?_; rintro e w' ⟨rfl, rfl⟩))
    go_ret
    exact ⟨ret_congr (by rw [HN.out]; rfl), hw1⟩
  · go_enter Tryd.func41, Tryd.ntmps41
    go_wp2_with (first
      | (go_at_call 63; refine (letter_any _ _).mono ?_; rintro e w' ⟨rfl, rfl⟩)
      | (go_at_call 66; refine (keywords_any _).mono ?_; rintro e w1 ⟨A, rfl, hA, hw1⟩)
      | (go_at_call 65; refine (has_any A _ keywords s _ (by decide) hA).mono ?_; rintro e w' ⟨rfl, rfl⟩))
    have HW := hide hw1; clear hw1
    have H3 := hide h3; clear h3
    have HB := hide hb; clear hb
    clear hA
    go_loop [3] (fun i => ∃ k : Nat, k ≤ s.size ∧ i = .int .i64 k ∧ ∀ j (hj : j < s.size), j < k → nameI s[j].toNat = true) (fun i => s.size - (intOf i).toNat)
    case atStart => exact ⟨0, Nat.zero_le _, rfl, fun j hj h0 => absurd h0 (by omega)⟩
    case round =>
      obtain ⟨k, hk, rfl, hn⟩ := hrel
      have HN := hide hn; clear hn
      by_cases hlt : k < s.size
      · cases hx : nameI s[k].toNat
        · obtain ⟨e1, e2, e3⟩ := nameI_false hx
          have HX := hide hx; clear hx
          go_wp2_with (first
            | (go_at_call 63; refine (letter_any _ _).mono ?_; rintro e w' ⟨rfl, rfl⟩)
            | (go_at_call 61; refine (digit_any _ _).mono ?_; rintro e w' ⟨rfl, rfl⟩))
          go_ret
          exact ⟨ret_congr (by rw [isName_at hlt HX]; rfl), HW.out⟩
        · rcases nameI_true hx with e1 | ⟨e1, e2⟩ | ⟨e1, e2, e3⟩
          all_goals
            have HX := hide hx; clear hx
            go_wp2_with (first
              | (go_at_call 63; refine (letter_any _ _).mono ?_; rintro e w' ⟨rfl, rfl⟩)
              | (go_at_call 61; refine (digit_any _ _).mono ?_; rintro e w' ⟨rfl, rfl⟩))
            go_round
            case rel => exact ⟨k + 1, by omega, by go_num, fun j hj h1 => by
              rcases Nat.lt_or_ge j k with h2 | h2
              · exact HN j hj h2
              · obtain rfl : j = k := by omega
                exact HX⟩
            case measure => simp [intOf]; omega
      · go_wp2
        go_ret
        exact ⟨ret_congr (by rw [isName_true (by omega) (by omega) H3.out HB.out (fun j hj => HN.out j hj (by omega))]; rfl), HW.out⟩
end Go.Proofs.YtanhkeeifnimgaaDoor

namespace Go.Proofs.YtanhkeeifnimgaaDoor
open Go Go.RowKit

/-- what 'form' answers -/
def formB (nm : ByteArray) (rn nn : Nat) (bY : Int) (al : Bool) (name : Bool) (least most numbers : Int) (by_ always : Bool) : Bool :=
  (name == !nm.toList.isEmpty) && decide (least ≤ (rn : Int)) && decide ((rn : Int) ≤ most) && ((nn : Int) == numbers) && (by_ || decide (bY = 0)) && (always || !al)

set_option maxHeartbeats 1000000 in
theorem form_any (k : Int) (nm : ByteArray) (ra : Option Addr) (rn rc : Nat) (na : Option Addr) (nn nc : Nat) (bY : Int) (al : Bool) (name : Bool) (least most numbers : Int) (by_ always : Bool) (w : World) :
    Calls Tryd.prog 95 #[.agg #[.int .i64 k, .string nm, .slice ra rn rc, .slice na nn nc, .int .i64 bY, .bool al], .bool name, .int .i64 least, .int .i64 most, .int .i64 numbers, .bool by_, .bool always] w
      fun e w' => e = .returned (.bool (formB nm rn nn bY al name least most numbers by_ always)) ∧ Below w.heap.size w w' := by
  go_enter Tryd.func95, Tryd.ntmps95
  go_wp2
  all_goals
    go_ret
    refine ⟨ret_congr (congrArg Value.bool ?_), (Below.refl _ _).alloc (Nat.le_refl _) _⟩
    simp_all [formB]
    try (intros; omega)

/-- the table of 'shape' -/
def shapeB (k : Int) (nm : ByteArray) (rn nn : Nat) (bY : Int) (al : Bool) : Bool :=
  if k = 0 ∨ k = 1 then formB nm rn nn bY al true 0 0 0 false false
  else if k = 2 then formB nm rn nn bY al true 2 2 0 false false
  else if k = 3 then formB nm rn nn bY al true 1 1 1 false false
  else if k = 4 then formB nm rn nn bY al false 2 2 1 false false
  else if k = 5 then formB nm rn nn bY al true 1 16 3 false false
  else if k = 6 then formB nm rn nn bY al true 1 16 4 false false
  else if k = 7 then formB nm rn nn bY al true 1 1 3 false false
  else if k = 8 then formB nm rn nn bY al false 1 1 2 false false
  else if k = 9 then formB nm rn nn bY al false 0 0 0 true false && decide (1 ≤ bY) && decide (bY ≤ 7)
  else if k = 10 then formB nm rn nn bY al false 1 1 0 false false
  else if k = 11 then formB nm rn nn bY al false 1 1 1 false true
  else if k = 12 then formB nm rn nn bY al false 1 1 1 true false && decide (2 ≤ bY) && decide (bY ≤ 4)
  else if k = 13 then formB nm rn nn bY al false 2 17 0 false false
  else if k = 14 then formB nm rn nn bY al false 2 2 0 false false
  else if k = 15 then formB nm rn nn bY al false 0 0 1 false false
  else if k = 16 then formB nm rn nn bY al false 1 1 1 false false
  else false
set_option maxHeartbeats 2000000 in
theorem shape_any (k : Int) (nm : ByteArray) (ra : Option Addr) (rn rc : Nat) (na : Option Addr) (nn nc : Nat) (bY : Int) (al : Bool) (w : World) :
    Calls Tryd.prog 40 #[.agg #[.int .i64 k, .string nm, .slice ra rn rc, .slice na nn nc, .int .i64 bY, .bool al]] w
      fun e w' => e = .returned (.bool (shapeB k nm rn nn bY al)) ∧ Below w.heap.size w w' := by
  go_enter Tryd.func40, Tryd.ntmps40
  go_wp2_with ((go_at_call 95; refine (form_any k nm ra rn rc na nn nc bY al _ _ _ _ _ _ _).mono ?_; rintro e w1 ⟨rfl, hb⟩; obtain ⟨hc1, _⟩ := bcell hb))
  all_goals
    go_ret
    refine ⟨ret_congr (congrArg Value.bool ?_), ?_⟩
    · simp_all [shapeB]
      try (intros; omega)
    · first | exact ((Below.refl _ _).alloc (Nat.le_refl _) _).trans (hb.mono (by simp)) | exact (Below.refl _ _).alloc (Nat.le_refl _) _
end Go.Proofs.YtanhkeeifnimgaaDoor

namespace Go.Proofs.YtanhkeeifnimgaaDoor
open Go Go.RowKit

/-- every string of a list fits memory -/
def Fit (l : List ByteArray) : Prop := ∀ s ∈ l, s.size ≤ 9223372036854775807
theorem Fit.at_ {l : List ByteArray} (h : Fit l) {k : Nat} (hk : k < l.length) : l[k].size ≤ 9223372036854775807 := h _ (List.getElem_mem _)

def validB (k : Int) (nm : ByteArray) (refs : List ByteArray) (nums : List Int) (bY : Int) (al : Bool) : Bool :=
  shapeB k nm refs.length nums.length bY al && (nm.toList.isEmpty || isName nm) && refs.all isName && nums.all numOk

theorem all_false_at {α : Type} {l : List α} {p : α → Bool} {k : Nat} (hk : k < l.length) (h : p l[k] = false) : l.all p = false := by
  rw [List.all_eq_false]; exact ⟨l[k], List.getElem_mem _, by simp [h]⟩
theorem all_true_of {α : Type} {l : List α} {p : α → Bool} (h : ∀ j (hj : j < l.length), p l[j] = true) : l.all p = true := by
  rw [List.all_eq_true]; intro x hx; obtain ⟨j, hj, rfl⟩ := List.getElem_of_mem hx; exact h j hj

set_option maxHeartbeats 4000000 in
theorem valid_ref (k : Int) (nm : ByteArray) (ra : Option Addr) (refs : List ByteArray) (rc : Nat) (na : Option Addr) (nums : List Int) (nc : Nat) (bY : Int) (al : Bool) (w : World)
    (hs : nm.size ≤ 9223372036854775807) (hf : Fit refs) (hl1 : refs.length ≤ 9223372036854775807) (hl2 : nums.length ≤ 9223372036854775807) (hr : Strs w w.heap.size ra refs) (hn : Ints w w.heap.size na nums) :
    Calls Tryd.prog 17 #[.agg #[.int .i64 k, .string nm, .slice ra refs.length rc, .slice na nums.length nc, .int .i64 bY, .bool al]] w
      fun e w' => e = .returned (.bool (validB k nm refs nums bY al)) ∧ Below w.heap.size w w' := by
  cases h1 : shapeB k nm refs.length nums.length bY al
  · have HV := hide (show validB k nm refs nums bY al = false by simp [validB, h1])
    go_enter Tryd.func17, Tryd.ntmps17
    go_wp2_with ((go_at_call 40; refine (shape_any k nm ra refs.length rc na nums.length nc bY al _).mono ?_; rintro e w1 ⟨rfl, hb⟩; obtain ⟨hc1, _⟩ := bcell hb))
    go_ret
    exact ⟨ret_congr (by rw [HV.out]; rfl), ((Below.refl _ _).alloc (Nat.le_refl _) _).trans (hb.mono (by simp))⟩
  cases h2 : (nm.toList.isEmpty || isName nm)
  · have HV := hide (show validB k nm refs nums bY al = false by simp [validB, h1, h2])
    simp only [Bool.or_eq_false_iff] at h2
    obtain ⟨h2, h3⟩ := h2
    have h2' : (!nm.toList.isEmpty) = true := by simp [h2]
    go_enter Tryd.func17, Tryd.ntmps17
    go_wp2_with (first
      | (go_at_call 40; refine (shape_any k nm ra refs.length rc na nums.length nc bY al _).mono ?_; rintro e w1 ⟨rfl, hb⟩; obtain ⟨hc1, _⟩ := bcell hb)
      | (go_at_call 41; refine (isName_ref nm _ hs).mono ?_; rintro e w2 ⟨rfl, hb2⟩))
    go_ret
    exact ⟨ret_congr (by rw [HV.out]; rfl), ((Below.refl _ _).alloc (Nat.le_refl _) _).trans ((hb.mono (by simp)).trans (hb2.mono (by have := hb.size; simp at this; omega)))⟩
  have hnm : (nm.toList.isEmpty = true) ∨ (nm.toList.isEmpty = false ∧ (!nm.toList.isEmpty) = true ∧ isName nm = true) := by
    cases h3 : nm.toList.isEmpty <;> simp_all
  have H2 := hide h2; clear h2
  rcases hnm with h2 | ⟨h2, h2', h3⟩
  all_goals
    go_enter Tryd.func17, Tryd.ntmps17
    go_wp2_with (first
      | (go_at_call 40; refine (shape_any k nm ra refs.length rc na nums.length nc bY al _).mono ?_; rintro e w1 ⟨rfl, hb⟩; obtain ⟨hc1, _⟩ := bcell hb)
      | (go_at_call 41; refine (isName_ref nm _ hs).mono ?_; rintro e w2 ⟨rfl, hb2⟩))
    first
      | (have hq : ∃ W, W = w2 := ⟨_, rfl⟩
         obtain ⟨W, rfl⟩ := hq
         have hsz : w.heap.size < W.heap.size := by have := hb.size; have := hb2.size; simp at *; omega
         have hbW : Below w.heap.size w W := ((Below.refl _ _).alloc (Nat.le_refl _) _).trans ((hb.mono (by simp)).trans (hb2.mono (by have := hb.size; simp at this; omega)))
         have hc2 : W.cell? ⟨w.heap.size, 2, none⟩ = some (.slice ra refs.length rc) := by
           rw [(bcell hb2).1 _ _ (by have := hb.size; simp at this; omega), hc1 _ _ (by simp)]; exact cell?_new _ _ _ _
         have hc3 : W.cell? ⟨w.heap.size, 3, none⟩ = some (.slice na nums.length nc) := by
           rw [(bcell hb2).1 _ _ (by have := hb.size; simp at this; omega), hc1 _ _ (by simp)]; exact cell?_new _ _ _ _
         clear hb2)
      | (have hq : ∃ W, W = w1 := ⟨_, rfl⟩
         obtain ⟨W, rfl⟩ := hq
         have hsz : w.heap.size < W.heap.size := by have := hb.size; simp at *; omega
         have hbW : Below w.heap.size w W := ((Below.refl _ _).alloc (Nat.le_refl _) _).trans (hb.mono (by simp))
         have hc2 : W.cell? ⟨w.heap.size, 2, none⟩ = some (.slice ra refs.length rc) := by rw [hc1 _ _ (by simp)]; exact cell?_new _ _ _ _
         have hc3 : W.cell? ⟨w.heap.size, 3, none⟩ = some (.slice na nums.length nc) := by rw [hc1 _ _ (by simp)]; exact cell?_new _ _ _ _)
    clear hc1 hb
    have H1 := hide h1; clear h1
    go_loopw [3] (fun i wr => ∃ j : Nat, j ≤ refs.length ∧ i = .int .i64 j ∧ Below w.heap.size w wr ∧ w.heap.size < wr.heap.size ∧ wr.cell? ⟨w.heap.size, 2, none⟩ = some (.slice ra refs.length rc) ∧ wr.cell? ⟨w.heap.size, 3, none⟩ = some (.slice na nums.length nc) ∧ Hid (∀ x (hx : x < refs.length), x < j → isName refs[x] = true)) (fun i _ => refs.length - (intOf i).toNat)
    case atStart => exact ⟨0, Nat.zero_le _, rfl, hbW, hsz, hc2, hc3, fun j hj h0 => absurd h0 (by omega)⟩
    case round =>
      clear hbW hsz hc2 hc3
      obtain ⟨j, hj, rfl, hbr, hsz, hc2, hc3, hnr⟩ := hrel
      by_cases hlt : j < refs.length
      · obtain ⟨ad, rfl, hab, hc⟩ := (hr.below hbr).at_ hlt
        cases hN : isName refs[j]
        · have HV := hide (show validB k nm refs nums bY al = false by simp [validB, all_false_at hlt hN])
          go_wp2_with (go_at_call 41; refine (isName_ref refs[j] _ (hf.at_ hlt)).mono ?_; rintro e w3 ⟨rfl, hb3⟩)
          go_ret
          exact ⟨ret_congr (by rw [HV.out]; rfl), hbr.trans (hb3.mono (by omega))⟩
        · go_wp2_with (go_at_call 41; refine (isName_ref refs[j] _ (hf.at_ hlt)).mono ?_; rintro e w3 ⟨rfl, hb3⟩)
          go_roundw
          case rel => exact ⟨j + 1, by omega, by go_num, hbr.trans (hb3.mono (by omega)), by have := hb3.size; omega, by rw [(bcell hb3).1 _ _ hsz, hc2], by rw [(bcell hb3).1 _ _ hsz, hc3], fun x hx h1 => by
            rcases Nat.lt_or_ge x j with h2 | h2
            · exact hnr x hx h2
            · obtain rfl : x = j := by omega
              exact hN⟩
          case measure => simp [intOf]; omega
      · have hall : refs.all isName = true := all_true_of fun x hx => hnr x hx (by omega)
        have HA := hide hall; clear hall
        go_wp2_with fail
        go_loop [4] (fun i => ∃ j : Nat, j ≤ nums.length ∧ i = .int .i64 j ∧ Hid (∀ x (hx : x < nums.length), x < j → numOk nums[x] = true)) (fun i => nums.length - (intOf i).toNat)
        case atStart => exact ⟨0, Nat.zero_le _, rfl, fun j hj h0 => absurd h0 (by omega)⟩
        case round =>
          obtain ⟨j, hj, rfl, hnr⟩ := hrel
          by_cases hlt : j < nums.length
          · obtain ⟨ad, rfl, hab, hc⟩ := (hn.below hbr).at_ hlt
            by_cases hN : 0 ≤ nums[j] ∧ nums[j] ≤ 1048576
            · obtain ⟨hN1, hN2⟩ := hN
              go_wp2
              go_round
              case rel => exact ⟨j + 1, by omega, by go_num, fun x hx h1 => by
                rcases Nat.lt_or_ge x j with h2 | h2
                · exact hnr x hx h2
                · obtain rfl : x = j := by omega
                  simp [numOk, hN1, hN2]⟩
              case measure => simp [intOf]; omega
            · have hN' : numOk nums[j] = false := by simp [numOk]; omega
              have HV := hide (show validB k nm refs nums bY al = false by simp [validB, all_false_at hlt hN'])
              clear hN'
              by_cases hN1 : nums[j] < 0
              · go_wp2
                go_ret
                exact ⟨ret_congr (by rw [HV.out]; rfl), hbr⟩
              · have hN2 : 1048576 < nums[j] := by omega
                go_wp2
                go_ret
                exact ⟨ret_congr (by rw [HV.out]; rfl), hbr⟩
          · have hall2 : nums.all numOk = true := all_true_of fun x hx => hnr x hx (by omega)
            have HV := hide (show validB k nm refs nums bY al = true by unfold validB; rw [H1.out, H2.out, HA.out, hall2]; rfl)
            clear hall2
            go_wp2
            go_ret
            exact ⟨ret_congr (by rw [HV.out]; rfl), hbr⟩
end Go.Proofs.YtanhkeeifnimgaaDoor
