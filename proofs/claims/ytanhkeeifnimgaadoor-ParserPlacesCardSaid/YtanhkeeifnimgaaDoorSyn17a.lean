/- The walks of package catalog's IsName and of slices.IndexFunc, ContainsFunc over strings and ints. Conditions: lengths that fit memory; the tables of package strings are laid. -/
import Derived.Test.YtanhkeeifnimgaaDoorShelf
import Derived.Test.YtanhkeeifnimgaaDoorSpec17
import Derived.Laws.RangeString
import Derived.Laws.RangeAny
import Derived.Shelf.Strings.FuncGrows
namespace Go.Proofs.YtanhkeeifnimgaaDoor
open Go Go.RowKit Go.Proofs

/-- a closure with captured values lb answers p on every element, and only adds memory -/
def PredS (g : Nat) (lb : Array Value) (l : List ByteArray) (p : ByteArray → Bool) (w : World) : Prop :=
  ∀ (k : Nat) (hk : k < l.length) (W : World), Below w.heap.size w W → Calls Tryd.prog g (#[.string l[k]] ++ lb) W fun e w' => e = .returned (.bool (p l[k])) ∧ Below W.heap.size W w'
def PredI (g : Nat) (lb : Array Value) (l : List Int) (p : Int → Bool) (w : World) : Prop :=
  ∀ (k : Nat) (hk : k < l.length) (W : World), Below w.heap.size w W → Calls Tryd.prog g (#[.int .i64 l[k]] ++ lb) W fun e w' => e = .returned (.bool (p l[k])) ∧ Below W.heap.size W w'

/-- the index of the first element that p answers yes, or -1 -/
def firstI {α : Type} (p : α → Bool) (l : List α) : Int := match l.findIdx? p with | some k => k | none => -1
theorem firstI_at {α : Type} {p : α → Bool} {l : List α} {k : Nat} (hk : k < l.length) (h : p l[k] = true) (hb : ∀ j (hj : j < l.length), j < k → p l[j] = false) : firstI p l = k := by
  have : l.findIdx? p = some k := by
    rw [List.findIdx?_eq_some_iff_getElem]
    exact ⟨hk, h, fun j hj => by simpa using hb j (by omega) hj⟩
  rw [firstI, this]
theorem firstI_none {α : Type} {p : α → Bool} {l : List α} (hb : ∀ j (hj : j < l.length), p l[j] = false) : firstI p l = -1 := by
  have : l.findIdx? p = none := by
    rw [List.findIdx?_eq_none_iff]
    intro x hx; obtain ⟨j, hj, rfl⟩ := List.getElem_of_mem hx; exact hb j hj
  rw [firstI, this]
theorem firstI_any {α : Type} (p : α → Bool) (l : List α) : decide (0 ≤ firstI p l) = l.any p := by
  rw [firstI]
  cases h : l.findIdx? p with
  | some k =>
    have := (List.findIdx?_eq_some_iff_getElem.1 h)
    obtain ⟨hk, hp, _⟩ := this
    have ha : l.any p = true := by rw [List.any_eq_true]; exact ⟨l[k], List.getElem_mem _, hp⟩
    rw [ha]; simp
  | none =>
    rw [List.findIdx?_eq_none_iff] at h
    have ha : l.any p = false := by rw [List.any_eq_false]; intro x hx; simp [h x hx]
    rw [ha]; rfl

set_option maxHeartbeats 400000 in
theorem indexFunc_strs (g : Nat) (lb : Array Value) (eg : ∀ args w, (callFunc g args).run Tryd.prog w = .ok (.enter g args) w) (p : ByteArray → Bool) (A : Option Addr) (c : Nat) (l : List ByteArray) (w : World)
    (hl : l.length ≤ 9223372036854775807) (h : Strs w w.heap.size A l) (hp : PredS g lb l p w) :
    Calls Tryd.prog 93 #[.slice A l.length c, .func (.func g) #[] lb] w fun e w' => e = .returned (.int .i64 (firstI p l)) ∧ Below w.heap.size w w' := by
  go_enter Tryd.func93, Tryd.ntmps93
  go_wp2_with fail
  have HP := hide hp; clear hp
  go_loopw [8] (fun i wr => ∃ k : Nat, k ≤ l.length ∧ i = .int .i64 k ∧ Below w.heap.size w wr ∧ Hid (∀ j (hj : j < l.length), j < k → p l[j] = false)) (fun i _ => l.length - (intOf i).toNat)
  case atStart => exact ⟨0, Nat.zero_le _, rfl, Below.refl _ _, fun j hj h0 => absurd h0 (by omega)⟩
  case round =>
    obtain ⟨k, hk, rfl, hbr, hs⟩ := hrel
    by_cases hlt : k < l.length
    · obtain ⟨ad, rfl, hb, hc⟩ := (h.below hbr).at_ hlt
      cases hpk : p l[k]
      · go_wp2_with (refine (HP k hlt _ hbr).mono ?_; rintro e w1 ⟨rfl, hb1⟩)
        go_roundw
        case rel => exact ⟨k + 1, by omega, by go_num, hbr.trans (hb1.mono hbr.size), fun j hj h1 => by
          rcases Nat.lt_or_ge j k with h2 | h2
          · exact hs j hj h2
          · obtain rfl : j = k := by omega
            exact hpk⟩
        case measure => simp [intOf]; omega
      · have HF := hide (firstI_at hlt hpk hs)
        go_wp2_with (refine (HP k hlt _ hbr).mono ?_; rintro e w1 ⟨rfl, hb1⟩)
        go_ret
        exact ⟨ret_congr (by rw [HF.out]; rfl), hbr.trans (hb1.mono hbr.size)⟩
    · have HF := hide (firstI_none fun j hj => hs j hj (by omega))
      go_wp2_with fail
      go_ret
      exact ⟨ret_congr (by rw [HF.out]; rfl), hbr⟩

set_option maxHeartbeats 400000 in
theorem containsFunc_strs (g : Nat) (lb : Array Value) (eg : ∀ args w, (callFunc g args).run Tryd.prog w = .ok (.enter g args) w) (p : ByteArray → Bool) (A : Option Addr) (c : Nat) (l : List ByteArray) (w : World)
    (hl : l.length ≤ 9223372036854775807) (h : Strs w w.heap.size A l) (hp : PredS g lb l p w) :
    Calls Tryd.prog 37 #[.slice A l.length c, .func (.func g) #[] lb] w fun e w' => e = .returned (.bool (l.any p)) ∧ Below w.heap.size w w' := by
  have HP := hide hp; clear hp
  have HF := hide (firstI_any p l)
  go_enter Tryd.func37, Tryd.ntmps37
  go_wp2_with (go_at_call 93; refine (indexFunc_strs g lb eg p A c l w hl h HP).mono ?_; rintro e w1 ⟨rfl, hb1⟩)
  go_ret
  exact ⟨ret_congr (by rw [← HF.out]; rfl), hb1⟩
set_option maxHeartbeats 400000 in
theorem indexFunc_ints (g : Nat) (lb : Array Value) (eg : ∀ args w, (callFunc g args).run Tryd.prog w = .ok (.enter g args) w) (p : Int → Bool) (A : Option Addr) (c : Nat) (l : List Int) (w : World)
    (hl : l.length ≤ 9223372036854775807) (h : Ints w w.heap.size A l) (hp : PredI g lb l p w) :
    Calls Tryd.prog 94 #[.slice A l.length c, .func (.func g) #[] lb] w fun e w' => e = .returned (.int .i64 (firstI p l)) ∧ Below w.heap.size w w' := by
  go_enter Tryd.func94, Tryd.ntmps94
  go_wp2_with fail
  have HP := hide hp; clear hp
  go_loopw [8] (fun i wr => ∃ k : Nat, k ≤ l.length ∧ i = .int .i64 k ∧ Below w.heap.size w wr ∧ Hid (∀ j (hj : j < l.length), j < k → p l[j] = false)) (fun i _ => l.length - (intOf i).toNat)
  case atStart => exact ⟨0, Nat.zero_le _, rfl, Below.refl _ _, fun j hj h0 => absurd h0 (by omega)⟩
  case round =>
    obtain ⟨k, hk, rfl, hbr, hs⟩ := hrel
    by_cases hlt : k < l.length
    · obtain ⟨ad, rfl, hb, hc⟩ := (h.below hbr).at_ hlt
      cases hpk : p l[k]
      · go_wp2_with (refine (HP k hlt _ hbr).mono ?_; rintro e w1 ⟨rfl, hb1⟩)
        go_roundw
        case rel => exact ⟨k + 1, by omega, by go_num, hbr.trans (hb1.mono hbr.size), fun j hj h1 => by
          rcases Nat.lt_or_ge j k with h2 | h2
          · exact hs j hj h2
          · obtain rfl : j = k := by omega
            exact hpk⟩
        case measure => simp [intOf]; omega
      · have HF := hide (firstI_at hlt hpk hs)
        go_wp2_with (refine (HP k hlt _ hbr).mono ?_; rintro e w1 ⟨rfl, hb1⟩)
        go_ret
        exact ⟨ret_congr (by rw [HF.out]; rfl), hbr.trans (hb1.mono hbr.size)⟩
    · have HF := hide (firstI_none fun j hj => hs j hj (by omega))
      go_wp2_with fail
      go_ret
      exact ⟨ret_congr (by rw [HF.out]; rfl), hbr⟩

set_option maxHeartbeats 400000 in
theorem containsFunc_ints (g : Nat) (lb : Array Value) (eg : ∀ args w, (callFunc g args).run Tryd.prog w = .ok (.enter g args) w) (p : Int → Bool) (A : Option Addr) (c : Nat) (l : List Int) (w : World)
    (hl : l.length ≤ 9223372036854775807) (h : Ints w w.heap.size A l) (hp : PredI g lb l p w) :
    Calls Tryd.prog 39 #[.slice A l.length c, .func (.func g) #[] lb] w fun e w' => e = .returned (.bool (l.any p)) ∧ Below w.heap.size w w' := by
  have HP := hide hp; clear hp
  have HF := hide (firstI_any p l)
  go_enter Tryd.func39, Tryd.ntmps39
  go_wp2_with (go_at_call 94; refine (indexFunc_ints g lb eg p A c l w hl h HP).mono ?_; rintro e w1 ⟨rfl, hb1⟩)
  go_ret
  exact ⟨ret_congr (by rw [← HF.out]; rfl), hb1⟩
end Go.Proofs.YtanhkeeifnimgaaDoor
