/- The walks of package lexer's classes of bytes: among, from, anyOf, and run. Conditions: lengths that fit memory. -/
import Derived.Test.YtanhkeeifnimgaaGreatDoorSyn17a
import Derived.Test.YtanhkeeifnimgaaGreatDoorSpec17
import Derived.Deep.RegionHeld3
import Derived.Deep.QuietTactic
import Derived.BigQuiet
import Derived.Laws.EntriesVeiled
namespace Go.Proofs.YtanhkeeifnimgaaGreatDoor
open Go Go.RowKit Go.Proofs

/-- a function value that answers p of every byte, in all later worlds, and only adds memory -/
def Cls (w : World) (v : Value) (p : UInt8 → Bool) : Prop :=
  ∃ (g : Nat) (lb : Array Value), v = .func (.func g) #[] lb ∧ (∀ args W, (callFunc g args).run Tryz.prog W = .ok (.enter g args) W) ∧
    ∀ (c : UInt8) (W : World), Below w.heap.size w W → Calls Tryz.prog g (#[.int .u8 c.toNat] ++ lb) W fun e w' => e = .returned (.bool (p c)) ∧ Below W.heap.size W w'
theorem Cls.below {w w' : World} {v : Value} {p : UInt8 → Bool} (h : Cls w v p) (hb : Below w.heap.size w w') : Cls w' v p := by
  obtain ⟨g, lb, rfl, eg, hc⟩ := h
  exact ⟨g, lb, rfl, eg, fun c W hW => hc c W (hb.trans (hW.mono hb.size))⟩

theorem indexByte_lo (l : List UInt8) (c : UInt8) : Lib.indexByte l c = -1 ∨ 0 ≤ Lib.indexByte l c := by
  induction l with
  | nil => left; rfl
  | cons b l ih =>
    unfold Lib.indexByte
    split
    · right; omega
    · split
      · left; rfl
      · right; omega
theorem indexByte_ge (l : List UInt8) (c : UInt8) : decide (0 ≤ Lib.indexByte l c) = l.contains c := by
  induction l with
  | nil => rfl
  | cons b l ih =>
    have hlo := indexByte_lo l c
    unfold Lib.indexByte
    rw [List.contains_cons, ← ih]
    by_cases h : b = c
    · simp [h]
    · have h' : (c == b) = false := by simp; exact fun e => h e.symm
      rw [if_neg (by simpa using h), h', Bool.false_or]
      by_cases h2 : Lib.indexByte l c = -1
      · rw [if_pos (by simpa using h2), h2]
      · rw [if_neg (by simpa using h2)]; rw [Bool.eq_iff_iff]; simp; omega
theorem toUInt8_toNat (c : UInt8) : ((c.toNat : Int).toNat).toUInt8 = c := by simp

set_option maxHeartbeats 400000 in
theorem amongC (str : ByteArray) (b : Nat) (w : World) (hb : b < w.heap.size) (hc : w.cell? ⟨b, 0, none⟩ = some (.string str)) :
    Cls w (.func (.func 94) #[] #[.pointer (some ⟨b, 0, none⟩)]) (fun c => str.data.toList.contains c) := by
  refine ⟨_, _, rfl, fun args W => by kernel_rfl, fun c W hW => ?_⟩
  have hc' := (hW.cell (p := ⟨b, 0, none⟩) hb).trans hc
  have HI := hide (indexByte_ge str.data.toList c)
  have he := toUInt8_toNat c
  have HE := hide he
  clear hc he
  go_enter Tryz.func94, Tryz.ntmps94
  go_wp2_with (go_at_call 95; refine (Tryz.strings_IndexByte str c.toNat W).mono ?_; rw [HE.out]; rintro e w' ⟨rfl, rfl⟩)
  go_ret
  exact ⟨ret_congr (congrArg Value.bool HI.out), Below.refl _ _⟩

/-- a byte from lo to hi -/
def inB (lo hi : Int) (c : UInt8) : Bool := decide (lo ≤ c.toNat) && decide ((c.toNat : Int) ≤ hi)
set_option maxHeartbeats 400000 in
theorem fromC (lo hi : Int) (b1 b2 : Nat) (w : World) (hb1 : b1 < w.heap.size) (hc1 : w.cell? ⟨b1, 0, none⟩ = some (.int .u8 lo)) (hb2 : b2 < w.heap.size) (hc2 : w.cell? ⟨b2, 0, none⟩ = some (.int .u8 hi)) :
    Cls w (.func (.func 96) #[] #[.pointer (some ⟨b1, 0, none⟩), .pointer (some ⟨b2, 0, none⟩)]) (inB lo hi) := by
  refine ⟨_, _, rfl, fun args W => by kernel_rfl, fun c W hW => ?_⟩
  have hc1' := (hW.cell (p := ⟨b1, 0, none⟩) hb1).trans hc1
  have hc2' := (hW.cell (p := ⟨b2, 0, none⟩) hb2).trans hc2
  clear hc1 hc2
  by_cases h1 : lo ≤ (c.toNat : Int)
  · by_cases h2 : (c.toNat : Int) ≤ hi
    · have HP := hide (show inB lo hi c = true by simp [inB, h1, h2])
      go_enter Tryz.func96, Tryz.ntmps96
      go_wp2_with fail
      go_ret
      exact ⟨ret_congr (by rw [HP.out]; rfl), Below.refl _ _⟩
    · have HP := hide (show inB lo hi c = false by simp [inB, h2])
      go_enter Tryz.func96, Tryz.ntmps96
      go_wp2_with fail
      go_ret
      exact ⟨ret_congr (by rw [HP.out]; rfl), Below.refl _ _⟩
  · have HP := hide (show inB lo hi c = false by simp [inB, h1])
    go_enter Tryz.func96, Tryz.ntmps96
    go_wp2_with fail
    go_ret
    exact ⟨ret_congr (by rw [HP.out]; rfl), Below.refl _ _⟩

/-- function values that stand in a slice -/
def ClsL (w : World) (A : Option Addr) (vs : List Value) (ps : List (UInt8 → Bool)) : Prop :=
  Reads w w.heap.size 1 A vs.length vs ∧ vs.length = ps.length ∧ ∀ i (h1 : i < vs.length) (h2 : i < ps.length), Cls w vs[i] ps[i]

theorem ClsL.below {w w' : World} {A : Option Addr} {vs : List Value} {ps : List (UInt8 → Bool)} (h : ClsL w A vs ps) (hb : Below w.heap.size w w') : ClsL w' A vs ps :=
  ⟨(h.1.below hb).more hb.size, h.2.1, fun i h1 h2 => (h.2.2 i h1 h2).below hb⟩
/-- what a class of a list answers of a byte -/
def atB (x : UInt8) (p : UInt8 → Bool) : Bool := p x

set_option maxHeartbeats 400000 in
theorem anyOf11 (b : Nat) (x : UInt8) (v : Value) (p : UInt8 → Bool) (w : World) (h : Cls w v p) (hc : w.cell? ⟨b, 0, none⟩ = some (.int .u8 x.toNat)) :
    Calls Tryz.prog 115 #[v, .pointer (some ⟨b, 0, none⟩)] w fun e w' => e = .returned (.bool (atB x p)) ∧ Below w.heap.size w w' := by
  obtain ⟨g, lb, rfl, eg, hcl⟩ := h
  have HC := hide (hcl x w (Below.refl _ _))
  have HP := hide (show atB x p = p x from rfl)
  clear hcl
  go_enter Tryz.func115, Tryz.ntmps115
  go_wp2_with (refine HC.out.mono ?_; rintro e w1 ⟨rfl, hb1⟩)
  go_ret
  exact ⟨ret_congr (by rw [HP.out]; rfl), hb1⟩

set_option maxHeartbeats 1000000 in
theorem indexFunc_cls (b : Nat) (A : Option Addr) (c : Nat) (vs : List Value) (ps : List (UInt8 → Bool)) (x : UInt8) (w : World) (hl : vs.length ≤ 9223372036854775807) (h : ClsL w A vs ps)
    (hb : b < w.heap.size) (hcb : w.cell? ⟨b, 0, none⟩ = some (.int .u8 x.toNat)) :
    Calls Tryz.prog 126 #[.slice A vs.length c, .func (.func 115) #[] #[.pointer (some ⟨b, 0, none⟩)]] w fun e w' => e = .returned (.int .i64 (firstI (atB x) ps)) ∧ Below w.heap.size w w' := by
  have HCB := hide hcb; clear hcb
  go_enter Tryz.func126, Tryz.ntmps126
  go_wp2_with fail
  go_loopw [8] (fun i wr => ∃ k : Nat, k ≤ vs.length ∧ i = .int .i64 k ∧ Below w.heap.size w wr ∧ Hid (∀ j (hj : j < ps.length), j < k → atB x ps[j] = false)) (fun i _ => vs.length - (intOf i).toNat)
  case atStart => exact ⟨0, Nat.zero_le _, rfl, Below.refl _ _, fun j hj h0 => absurd h0 (by omega)⟩
  case round =>
    obtain ⟨k, hk, rfl, hbr, hs⟩ := hrel
    by_cases hlt : k < vs.length
    · have hlt2 : k < ps.length := by rw [← h.2.1]; exact hlt
      obtain ⟨ad, u, rfl, hab, hu, hcell⟩ := Reads.at_ (h.1.below hbr) hlt
      have hcl := (h.2.2 k hlt hlt2).below hbr
      have hue : u = vs[k] := by rw [List.getElem?_eq_getElem hlt] at hu; exact (Option.some.inj hu).symm
      rw [← hue] at hcl
      clear hu hue
      have hcall := anyOf11 b x u ps[k] wr hcl ((hbr.cell (p := ⟨b, 0, none⟩) hb).trans HCB.out)
      cases hx : atB x ps[k]
      · rw [hx] at hcall
        have HCL := hide hcall
        have HX := hide hx
        clear hcall hx hcl
        go_wp2_with (go_at_call 115; refine HCL.out.mono ?_; rintro e w1 ⟨rfl, hb1⟩)
        go_roundw
        case rel => exact ⟨k + 1, by omega, by go_num, hbr.trans (hb1.mono hbr.size), fun j hj h1 => by
          rcases Nat.lt_or_ge j k with h2 | h2
          · exact hs j hj h2
          · obtain rfl : j = k := by omega
            exact HX⟩
        case measure => simp [intOf]; omega
      · rw [hx] at hcall
        have HCL := hide hcall
        have HF := hide (firstI_at (p := atB x) hlt2 hx hs)
        clear hcall hx hcl
        go_wp2_with (go_at_call 115; refine HCL.out.mono ?_; rintro e w1 ⟨rfl, hb1⟩)
        go_ret
        exact ⟨ret_congr (by rw [HF.out]; rfl), hbr.trans (hb1.mono hbr.size)⟩
    · have HF := hide (firstI_none (p := atB x) fun j hj => hs j hj (by have := h.2.1; omega))
      go_wp2_with fail
      go_ret
      exact ⟨ret_congr (by rw [HF.out]; rfl), hbr⟩

set_option maxHeartbeats 400000 in
theorem containsFunc_cls (b : Nat) (A : Option Addr) (c : Nat) (vs : List Value) (ps : List (UInt8 → Bool)) (x : UInt8) (w : World) (hl : vs.length ≤ 9223372036854775807) (h : ClsL w A vs ps)
    (hb : b < w.heap.size) (hcb : w.cell? ⟨b, 0, none⟩ = some (.int .u8 x.toNat)) :
    Calls Tryz.prog 114 #[.slice A vs.length c, .func (.func 115) #[] #[.pointer (some ⟨b, 0, none⟩)]] w fun e w' => e = .returned (.bool (ps.any (atB x))) ∧ Below w.heap.size w w' := by
  have HF := hide (firstI_any (atB x) ps)
  have HC := hide (indexFunc_cls b A c vs ps x w hl h hb hcb)
  clear hcb
  go_enter Tryz.func114, Tryz.ntmps114
  go_wp2_with (go_at_call 126; refine HC.out.mono ?_; rintro e w1 ⟨rfl, hb1⟩)
  go_ret
  exact ⟨ret_congr (congrArg Value.bool HF.out), hb1⟩

set_option maxHeartbeats 400000 in
theorem anyOfC (b : Nat) (A : Option Addr) (c : Nat) (vs : List Value) (ps : List (UInt8 → Bool)) (w : World) (hl : vs.length ≤ 9223372036854775807) (h : ClsL w A vs ps) (hb : b < w.heap.size) (hcb : w.cell? ⟨b, 0, none⟩ = some (.slice A vs.length c)) :
    Cls w (.func (.func 113) #[] #[.pointer (some ⟨b, 0, none⟩)]) (fun x => ps.any (atB x)) := by
  refine ⟨_, _, rfl, fun args W => by kernel_rfl, fun x W hW => ?_⟩
  have hcb' := (World.cell?_alloc_lt W (.cells #[.int .u8 x.toNat] 5) _ (Nat.lt_of_lt_of_le hb hW.size)).trans ((hW.cell (p := ⟨b, 0, none⟩) hb).trans hcb)
  have hb1 : Below W.heap.size W (W.alloc (.cells #[.int .u8 x.toNat] 5)) := (Below.refl _ _).alloc (Nat.le_refl _) _
  have hx : (W.alloc (.cells #[.int .u8 x.toNat] 5)).cell? ⟨W.heap.size, 0, none⟩ = some (.int .u8 x.toNat) := cell?_new _ _ _ _
  have HC := hide (containsFunc_cls W.heap.size A c vs ps x _ hl ((h.below hW).below hb1) (by simp) hx)
  clear hcb hx
  go_enter Tryz.func113, Tryz.ntmps113
  go_wp2_with (go_at_call 114; refine HC.out.mono ?_; rintro e w1 ⟨rfl, hb2⟩)
  go_ret
  exact ⟨rfl, hb1.trans (hb2.mono hb1.size)⟩

theorem takeWhile_at {s : ByteArray} {p : UInt8 → Bool} {k : Nat} (hk : k < s.size) (hx : p s[k] = false) (hp : ∀ j (hj : j < s.size), j < k → p s[j] = true) : (s.data.toList.takeWhile p).length = k := by
  have e : s.data.toList = s.data.toList.take k ++ s[k] :: s.data.toList.drop (k + 1) := by
    conv => lhs; rw [← List.take_append_drop k s.data.toList, List.drop_eq_getElem_cons (by simpa using hk)]
    rfl
  have ha : ∀ x ∈ s.data.toList.take k, p x = true := by
    intro x hx
    obtain ⟨j, hj, rfl⟩ := List.getElem_of_mem hx
    rw [List.getElem_take]
    have hj' : j < k ∧ j < s.size := by simp at hj; omega
    exact hp j hj'.2 hj'.1
  rw [e, List.takeWhile_append_of_pos ha, List.takeWhile_cons_of_neg (by simp [hx])]
  simp
  omega
theorem takeWhile_all {s : ByteArray} {p : UInt8 → Bool} (hp : ∀ j (hj : j < s.size), p s[j] = true) : (s.data.toList.takeWhile p).length = s.size := by
  have ha : ∀ x ∈ s.data.toList, p x = true := by
    intro x hx
    obtain ⟨j, hj, rfl⟩ := List.getElem_of_mem hx
    exact hp j (by simpa using hj)
  have : s.data.toList.takeWhile p = s.data.toList := by
    have := List.takeWhile_append_of_pos (l₂ := []) ha
    simpa using this
  rw [this]; simp

set_option maxHeartbeats 1000000 in
theorem run_any (s : ByteArray) (v : Value) (p : UInt8 → Bool) (w : World) (hs : s.size ≤ 9223372036854775807) (h : Cls w v p) :
    Calls Tryz.prog 52 #[.string s, v] w fun e w' => e = .returned (.int .i64 (s.data.toList.takeWhile p).length) ∧ Below w.heap.size w w' := by
  obtain ⟨g, lb, rfl, eg, hc⟩ := h
  have HC := hide hc; clear hc
  go_enter Tryz.func52, Tryz.ntmps52
  go_wp2_with fail
  go_loopw [5] (fun i wr => ∃ k : Nat, k ≤ s.size ∧ i = .int .i64 k ∧ Below w.heap.size w wr ∧ Hid (∀ j (hj : j < s.size), j < k → p s[j] = true)) (fun i _ => s.size - (intOf i).toNat)
  case atStart => exact ⟨0, Nat.zero_le _, rfl, Below.refl _ _, fun j hj h0 => absurd h0 (by omega)⟩
  case round =>
    obtain ⟨k, hk, rfl, hbr, hp⟩ := hrel
    by_cases hlt : k < s.size
    · have hcall := HC.out s[k] wr hbr
      cases hx : p s[k]
      · rw [hx] at hcall
        have HCL := hide hcall
        clear hcall
        have HF := hide (takeWhile_at hlt hx hp)
        clear hx
        go_wp2_with (refine HCL.out.mono ?_; rintro e w1 ⟨rfl, hb1⟩)
        go_ret
        exact ⟨ret_congr (by rw [HF.out]; rfl), hbr.trans (hb1.mono hbr.size)⟩
      · rw [hx] at hcall
        have HCL := hide hcall
        clear hcall
        have HX := hide hx
        clear hx
        go_wp2_with (refine HCL.out.mono ?_; rintro e w1 ⟨rfl, hb1⟩)
        go_roundw
        case rel => exact ⟨k + 1, by omega, by go_num, hbr.trans (hb1.mono hbr.size), fun j hj h1 => by
          rcases Nat.lt_or_ge j k with h2 | h2
          · exact hp j hj h2
          · obtain rfl : j = k := by omega
            exact HX⟩
        case measure => simp [intOf]; omega
    · have HF := hide (takeWhile_all (s := s) (p := p) fun j hj => hp j hj (by omega))
      have hks : k = s.size := by omega
      have HK := hide hks
      clear hks
      go_wp2_with fail
      go_ret
      exact ⟨ret_congr (by rw [HF.out, HK.out]; rfl), hbr⟩
end Go.Proofs.YtanhkeeifnimgaaGreatDoor
