/- The walks of package lexer's classes of bytes: among, from, anyOf, and run. Conditions: lengths that fit memory. The walks of package lexer's among, from, anyOf (as calls) and skip. Conditions: lengths that fit memory. The walk of package lexer's word. Conditions: lengths that fit memory; the tables are laid. -/
import Derived.Test.YtanhkeeifnimgaaDoorSyn17a
import Derived.Test.YtanhkeeifnimgaaDoorSpec17
import Derived.Deep.RegionHeld3
import Derived.Deep.QuietTactic
import Derived.BigQuiet
import Derived.Laws.EntriesVeiled
import Derived.Test.YtanhkeeifnimgaaDoorLex16s
import Derived.Test.YtanhkeeifnimgaaDoorSyn17c
import Derived.Test.YtanhkeeifnimgaaDoorOwn

namespace Go.Proofs.YtanhkeeifnimgaaDoor
open Go Go.RowKit Go.Proofs

/-- a function value that answers p of every byte, in all later worlds, and only adds memory -/
def Cls (w : World) (v : Value) (p : UInt8 → Bool) : Prop :=
  ∃ (g : Nat) (lb : Array Value), v = .func (.func g) #[] lb ∧ (∀ args W, (callFunc g args).run Tryd.prog W = .ok (.enter g args) W) ∧
    ∀ (c : UInt8) (W : World), Below w.heap.size w W → Calls Tryd.prog g (#[.int .u8 c.toNat] ++ lb) W fun e w' => e = .returned (.bool (p c)) ∧ Below W.heap.size W w'
theorem Cls.below {w w' : World} {v : Value} {p : UInt8 → Bool} (h : Cls w v p) (hb : Below w.heap.size w w') : Cls w' v p := by
  obtain ⟨g, lb, rfl, eg, hc⟩ := h
  exact ⟨g, lb, rfl, eg, fun c W hW => hc c W (hb.trans (hW.mono hb.size))⟩

theorem indexByte_lo (l : List UInt8) (c : UInt8) : Lib.indexByte l c = -1 ∨ 0 ≤ Lib.indexByte l c := by
  induction l with
  | nil => left; rfl
  | cons b l ih =>
    unfold Lib.indexByte
    split
    · right; omega
    · split
      · left; rfl
      · right; omega
theorem indexByte_ge (l : List UInt8) (c : UInt8) : decide (0 ≤ Lib.indexByte l c) = l.contains c := by
  induction l with
  | nil => rfl
  | cons b l ih =>
    have hlo := indexByte_lo l c
    unfold Lib.indexByte
    rw [List.contains_cons, ← ih]
    by_cases h : b = c
    · simp [h]
    · have h' : (c == b) = false := by simp; exact fun e => h e.symm
      rw [if_neg (by simpa using h), h', Bool.false_or]
      by_cases h2 : Lib.indexByte l c = -1
      · rw [if_pos (by simpa using h2), h2]
      · rw [if_neg (by simpa using h2)]; rw [Bool.eq_iff_iff]; simp; omega
theorem toUInt8_toNat (c : UInt8) : ((c.toNat : Int).toNat).toUInt8 = c := by simp

set_option maxHeartbeats 400000 in
theorem amongC (str : ByteArray) (b : Nat) (w : World) (hb : b < w.heap.size) (hc : w.cell? ⟨b, 0, none⟩ = some (.string str)) :
    Cls w (.func (.func 123) #[] #[.pointer (some ⟨b, 0, none⟩)]) (fun c => str.data.toList.contains c) := by
  refine ⟨_, _, rfl, fun args W => by kernel_rfl, fun c W hW => ?_⟩
  have hc' := (hW.cell (p := ⟨b, 0, none⟩) hb).trans hc
  have HI := hide (indexByte_ge str.data.toList c)
  have he := toUInt8_toNat c
  have HE := hide he
  clear hc he
  go_enter Tryd.func123, Tryd.ntmps123
  go_wp2_with (go_at_call 124; refine (Tryd.strings_IndexByte str c.toNat W).mono ?_; rw [HE.out]; rintro e w' ⟨rfl, rfl⟩)
  go_ret
  exact ⟨ret_congr (congrArg Value.bool HI.out), Below.refl _ _⟩

/-- a byte from lo to hi -/
def inB (lo hi : Int) (c : UInt8) : Bool := decide (lo ≤ c.toNat) && decide ((c.toNat : Int) ≤ hi)
set_option maxHeartbeats 400000 in
theorem fromC (lo hi : Int) (b1 b2 : Nat) (w : World) (hb1 : b1 < w.heap.size) (hc1 : w.cell? ⟨b1, 0, none⟩ = some (.int .u8 lo)) (hb2 : b2 < w.heap.size) (hc2 : w.cell? ⟨b2, 0, none⟩ = some (.int .u8 hi)) :
    Cls w (.func (.func 125) #[] #[.pointer (some ⟨b1, 0, none⟩), .pointer (some ⟨b2, 0, none⟩)]) (inB lo hi) := by
  refine ⟨_, _, rfl, fun args W => by kernel_rfl, fun c W hW => ?_⟩
  have hc1' := (hW.cell (p := ⟨b1, 0, none⟩) hb1).trans hc1
  have hc2' := (hW.cell (p := ⟨b2, 0, none⟩) hb2).trans hc2
  clear hc1 hc2
  by_cases h1 : lo ≤ (c.toNat : Int)
  · by_cases h2 : (c.toNat : Int) ≤ hi
    · have HP := hide (show inB lo hi c = true by simp [inB, h1, h2])
      go_enter Tryd.func125, Tryd.ntmps125
      go_wp2_with fail
      go_ret
      exact ⟨ret_congr (by rw [HP.out]; rfl), Below.refl _ _⟩
    · have HP := hide (show inB lo hi c = false by simp [inB, h2])
      go_enter Tryd.func125, Tryd.ntmps125
      go_wp2_with fail
      go_ret
      exact ⟨ret_congr (by rw [HP.out]; rfl), Below.refl _ _⟩
  · have HP := hide (show inB lo hi c = false by simp [inB, h1])
    go_enter Tryd.func125, Tryd.ntmps125
    go_wp2_with fail
    go_ret
    exact ⟨ret_congr (by rw [HP.out]; rfl), Below.refl _ _⟩

/-- function values that stand in a slice -/
def ClsL (w : World) (A : Option Addr) (vs : List Value) (ps : List (UInt8 → Bool)) : Prop :=
  Reads w w.heap.size 1 A vs.length vs ∧ vs.length = ps.length ∧ ∀ i (h1 : i < vs.length) (h2 : i < ps.length), Cls w vs[i] ps[i]

theorem ClsL.below {w w' : World} {A : Option Addr} {vs : List Value} {ps : List (UInt8 → Bool)} (h : ClsL w A vs ps) (hb : Below w.heap.size w w') : ClsL w' A vs ps :=
  ⟨(h.1.below hb).more hb.size, h.2.1, fun i h1 h2 => (h.2.2 i h1 h2).below hb⟩
/-- what a class of a list answers of a byte -/
def atB (x : UInt8) (p : UInt8 → Bool) : Bool := p x

set_option maxHeartbeats 400000 in
theorem anyOf11 (b : Nat) (x : UInt8) (v : Value) (p : UInt8 → Bool) (w : World) (h : Cls w v p) (hc : w.cell? ⟨b, 0, none⟩ = some (.int .u8 x.toNat)) :
    Calls Tryd.prog 139 #[v, .pointer (some ⟨b, 0, none⟩)] w fun e w' => e = .returned (.bool (atB x p)) ∧ Below w.heap.size w w' := by
  obtain ⟨g, lb, rfl, eg, hcl⟩ := h
  have HC := hide (hcl x w (Below.refl _ _))
  have HP := hide (show atB x p = p x from rfl)
  clear hcl
  go_enter Tryd.func139, Tryd.ntmps139
  go_wp2_with (refine HC.out.mono ?_; rintro e w1 ⟨rfl, hb1⟩)
  go_ret
  exact ⟨ret_congr (by rw [HP.out]; rfl), hb1⟩

set_option maxHeartbeats 1000000 in
theorem indexFunc_cls (b : Nat) (A : Option Addr) (c : Nat) (vs : List Value) (ps : List (UInt8 → Bool)) (x : UInt8) (w : World) (hl : vs.length ≤ 9223372036854775807) (h : ClsL w A vs ps)
    (hb : b < w.heap.size) (hcb : w.cell? ⟨b, 0, none⟩ = some (.int .u8 x.toNat)) :
    Calls Tryd.prog 143 #[.slice A vs.length c, .func (.func 139) #[] #[.pointer (some ⟨b, 0, none⟩)]] w fun e w' => e = .returned (.int .i64 (firstI (atB x) ps)) ∧ Below w.heap.size w w' := by
  have HCB := hide hcb; clear hcb
  go_enter Tryd.func143, Tryd.ntmps143
  go_wp2_with fail
  go_loopw [8] (fun i wr => ∃ k : Nat, k ≤ vs.length ∧ i = .int .i64 k ∧ Below w.heap.size w wr ∧ Hid (∀ j (hj : j < ps.length), j < k → atB x ps[j] = false)) (fun i _ => vs.length - (intOf i).toNat)
  case atStart => exact ⟨0, Nat.zero_le _, rfl, Below.refl _ _, fun j hj h0 => absurd h0 (by omega)⟩
  case round =>
    obtain ⟨k, hk, rfl, hbr, hs⟩ := hrel
    by_cases hlt : k < vs.length
    · have hlt2 : k < ps.length := by rw [← h.2.1]; exact hlt
      obtain ⟨ad, u, rfl, hab, hu, hcell⟩ := Reads.at_ (h.1.below hbr) hlt
      have hcl := (h.2.2 k hlt hlt2).below hbr
      have hue : u = vs[k] := by rw [List.getElem?_eq_getElem hlt] at hu; exact (Option.some.inj hu).symm
      rw [← hue] at hcl
      clear hu hue
      have hcall := anyOf11 b x u ps[k] wr hcl ((hbr.cell (p := ⟨b, 0, none⟩) hb).trans HCB.out)
      cases hx : atB x ps[k]
      · rw [hx] at hcall
        have HCL := hide hcall
        have HX := hide hx
        clear hcall hx hcl
        go_wp2_with (go_at_call 139; refine HCL.out.mono ?_; rintro e w1 ⟨rfl, hb1⟩)
        go_roundw
        case rel => exact ⟨k + 1, by omega, by go_num, hbr.trans (hb1.mono hbr.size), fun j hj h1 => by
          rcases Nat.lt_or_ge j k with h2 | h2
          · exact hs j hj h2
          · obtain rfl : j = k := by omega
            exact HX⟩
        case measure => simp [intOf]; omega
      · rw [hx] at hcall
        have HCL := hide hcall
        have HF := hide (firstI_at (p := atB x) hlt2 hx hs)
        clear hcall hx hcl
        go_wp2_with (go_at_call 139; refine HCL.out.mono ?_; rintro e w1 ⟨rfl, hb1⟩)
        go_ret
        exact ⟨ret_congr (by rw [HF.out]; rfl), hbr.trans (hb1.mono hbr.size)⟩
    · have HF := hide (firstI_none (p := atB x) fun j hj => hs j hj (by have := h.2.1; omega))
      go_wp2_with fail
      go_ret
      exact ⟨ret_congr (by rw [HF.out]; rfl), hbr⟩

set_option maxHeartbeats 400000 in
theorem containsFunc_cls (b : Nat) (A : Option Addr) (c : Nat) (vs : List Value) (ps : List (UInt8 → Bool)) (x : UInt8) (w : World) (hl : vs.length ≤ 9223372036854775807) (h : ClsL w A vs ps)
    (hb : b < w.heap.size) (hcb : w.cell? ⟨b, 0, none⟩ = some (.int .u8 x.toNat)) :
    Calls Tryd.prog 138 #[.slice A vs.length c, .func (.func 139) #[] #[.pointer (some ⟨b, 0, none⟩)]] w fun e w' => e = .returned (.bool (ps.any (atB x))) ∧ Below w.heap.size w w' := by
  have HF := hide (firstI_any (atB x) ps)
  have HC := hide (indexFunc_cls b A c vs ps x w hl h hb hcb)
  clear hcb
  go_enter Tryd.func138, Tryd.ntmps138
  go_wp2_with (go_at_call 143; refine HC.out.mono ?_; rintro e w1 ⟨rfl, hb1⟩)
  go_ret
  exact ⟨ret_congr (congrArg Value.bool HF.out), hb1⟩

set_option maxHeartbeats 400000 in
theorem anyOfC (b : Nat) (A : Option Addr) (c : Nat) (vs : List Value) (ps : List (UInt8 → Bool)) (w : World) (hl : vs.length ≤ 9223372036854775807) (h : ClsL w A vs ps) (hb : b < w.heap.size) (hcb : w.cell? ⟨b, 0, none⟩ = some (.slice A vs.length c)) :
    Cls w (.func (.func 137) #[] #[.pointer (some ⟨b, 0, none⟩)]) (fun x => ps.any (atB x)) := by
  refine ⟨_, _, rfl, fun args W => by kernel_rfl, fun x W hW => ?_⟩
  have hcb' := (World.cell?_alloc_lt W (.cells #[.int .u8 x.toNat] 5) _ (Nat.lt_of_lt_of_le hb hW.size)).trans ((hW.cell (p := ⟨b, 0, none⟩) hb).trans hcb)
  have hb1 : Below W.heap.size W (W.alloc (.cells #[.int .u8 x.toNat] 5)) := (Below.refl _ _).alloc (Nat.le_refl _) _
  have hx : (W.alloc (.cells #[.int .u8 x.toNat] 5)).cell? ⟨W.heap.size, 0, none⟩ = some (.int .u8 x.toNat) := cell?_new _ _ _ _
  have HC := hide (containsFunc_cls W.heap.size A c vs ps x _ hl ((h.below hW).below hb1) (by simp) hx)
  clear hcb hx
  go_enter Tryd.func137, Tryd.ntmps137
  go_wp2_with (go_at_call 138; refine HC.out.mono ?_; rintro e w1 ⟨rfl, hb2⟩)
  go_ret
  exact ⟨rfl, hb1.trans (hb2.mono hb1.size)⟩

theorem takeWhile_at {s : ByteArray} {p : UInt8 → Bool} {k : Nat} (hk : k < s.size) (hx : p s[k] = false) (hp : ∀ j (hj : j < s.size), j < k → p s[j] = true) : (s.data.toList.takeWhile p).length = k := by
  have e : s.data.toList = s.data.toList.take k ++ s[k] :: s.data.toList.drop (k + 1) := by
    conv => lhs; rw [← List.take_append_drop k s.data.toList, List.drop_eq_getElem_cons (by simpa using hk)]
    rfl
  have ha : ∀ x ∈ s.data.toList.take k, p x = true := by
    intro x hx
    obtain ⟨j, hj, rfl⟩ := List.getElem_of_mem hx
    rw [List.getElem_take]
    have hj' : j < k ∧ j < s.size := by simp at hj; omega
    exact hp j hj'.2 hj'.1
  rw [e, List.takeWhile_append_of_pos ha, List.takeWhile_cons_of_neg (by simp [hx])]
  simp
  omega
theorem takeWhile_all {s : ByteArray} {p : UInt8 → Bool} (hp : ∀ j (hj : j < s.size), p s[j] = true) : (s.data.toList.takeWhile p).length = s.size := by
  have ha : ∀ x ∈ s.data.toList, p x = true := by
    intro x hx
    obtain ⟨j, hj, rfl⟩ := List.getElem_of_mem hx
    exact hp j (by simpa using hj)
  have : s.data.toList.takeWhile p = s.data.toList := by
    have := List.takeWhile_append_of_pos (l₂ := []) ha
    simpa using this
  rw [this]; simp

set_option maxHeartbeats 1000000 in
theorem run_any (s : ByteArray) (v : Value) (p : UInt8 → Bool) (w : World) (hs : s.size ≤ 9223372036854775807) (h : Cls w v p) :
    Calls Tryd.prog 103 #[.string s, v] w fun e w' => e = .returned (.int .i64 (s.data.toList.takeWhile p).length) ∧ Below w.heap.size w w' := by
  obtain ⟨g, lb, rfl, eg, hc⟩ := h
  have HC := hide hc; clear hc
  go_enter Tryd.func103, Tryd.ntmps103
  go_wp2_with fail
  go_loopw [5] (fun i wr => ∃ k : Nat, k ≤ s.size ∧ i = .int .i64 k ∧ Below w.heap.size w wr ∧ Hid (∀ j (hj : j < s.size), j < k → p s[j] = true)) (fun i _ => s.size - (intOf i).toNat)
  case atStart => exact ⟨0, Nat.zero_le _, rfl, Below.refl _ _, fun j hj h0 => absurd h0 (by omega)⟩
  case round =>
    obtain ⟨k, hk, rfl, hbr, hp⟩ := hrel
    by_cases hlt : k < s.size
    · have hcall := HC.out s[k] wr hbr
      cases hx : p s[k]
      · rw [hx] at hcall
        have HCL := hide hcall
        clear hcall
        have HF := hide (takeWhile_at hlt hx hp)
        clear hx
        go_wp2_with (refine HCL.out.mono ?_; rintro e w1 ⟨rfl, hb1⟩)
        go_ret
        exact ⟨ret_congr (by rw [HF.out]; rfl), hbr.trans (hb1.mono hbr.size)⟩
      · rw [hx] at hcall
        have HCL := hide hcall
        clear hcall
        have HX := hide hx
        clear hx
        go_wp2_with (refine HCL.out.mono ?_; rintro e w1 ⟨rfl, hb1⟩)
        go_roundw
        case rel => exact ⟨k + 1, by omega, by go_num, hbr.trans (hb1.mono hbr.size), fun j hj h1 => by
          rcases Nat.lt_or_ge j k with h2 | h2
          · exact hp j hj h2
          · obtain rfl : j = k := by omega
            exact HX⟩
        case measure => simp [intOf]; omega
    · have HF := hide (takeWhile_all (s := s) (p := p) fun j hj => hp j hj (by omega))
      have hks : k = s.size := by omega
      have HK := hide hks
      clear hks
      go_wp2_with fail
      go_ret
      exact ⟨ret_congr (by rw [HF.out, HK.out]; rfl), hbr⟩
end Go.Proofs.YtanhkeeifnimgaaDoor

namespace Go.Proofs.YtanhkeeifnimgaaDoor
open Go Go.RowKit Go.Proofs

set_option maxHeartbeats 400000 in
theorem among_any (str : ByteArray) (w : World) : Calls Tryd.prog 104 #[.string str] w fun e w' => (∃ v, e = .returned v ∧ Cls w' v (fun c => str.data.toList.contains c)) ∧ Below w.heap.size w w' := by
  have HC := hide (amongC str w.heap.size (w.alloc (.cells #[.string str] 9)) (by simp) (cell?_new _ _ _ _))
  go_enter Tryd.func104, Tryd.ntmps104
  go_wp2_with fail
  go_ret
  exact ⟨⟨_, rfl, HC.out⟩, (Below.refl _ _).alloc (Nat.le_refl _) _⟩
set_option maxHeartbeats 400000 in
theorem from_any (lo hi : Int) (w : World) : Calls Tryd.prog 106 #[.int .u8 lo, .int .u8 hi] w fun e w' => (∃ v, e = .returned v ∧ Cls w' v (inB lo hi)) ∧ Below w.heap.size w w' := by
  have h1 : ((w.alloc (.cells #[.int .u8 lo] 5)).alloc (.cells #[.int .u8 hi] 5)).cell? ⟨w.heap.size, 0, none⟩ = some (.int .u8 lo) := (World.cell?_alloc_lt _ _ _ (by simp)).trans (cell?_new _ _ _ _)
  have h2 : ((w.alloc (.cells #[.int .u8 lo] 5)).alloc (.cells #[.int .u8 hi] 5)).cell? ⟨w.heap.size + 1, 0, none⟩ = some (.int .u8 hi) := by
    have := cell?_new (w.alloc (.cells #[.int .u8 lo] 5)) #[.int .u8 hi] 5 0
    simp at this ⊢
  have HC := hide (fromC lo hi w.heap.size (w.heap.size + 1) _ (by simp; omega) h1 (by simp) h2)
  clear h1 h2
  go_enter Tryd.func106, Tryd.ntmps106
  go_wp2_with fail
  go_ret
  exact ⟨⟨_, rfl, HC.out⟩, ((Below.refl _ _).alloc (Nat.le_refl _) _).alloc (by simp) _⟩
set_option maxHeartbeats 400000 in
theorem anyOf_any (A : Option Addr) (c : Nat) (vs : List Value) (ps : List (UInt8 → Bool)) (w : World) (hl : vs.length ≤ 9223372036854775807) (h : ClsL w A vs ps) :
    Calls Tryd.prog 126 #[.slice A vs.length c] w fun e w' => (∃ v, e = .returned v ∧ Cls w' v (fun x => ps.any (atB x))) ∧ Below w.heap.size w w' := by
  have hB : Below w.heap.size w (w.alloc (.cells #[.slice A vs.length c] 125)) := (Below.refl _ _).alloc (Nat.le_refl _) _
  have HC := hide (anyOfC w.heap.size A c vs ps _ hl (h.below hB) (by simp) (cell?_new _ _ _ _))
  clear hB
  go_enter Tryd.func126, Tryd.ntmps126
  go_wp2_with fail
  go_ret
  exact ⟨⟨_, rfl, HC.out⟩, (Below.refl _ _).alloc (Nat.le_refl _) _⟩
set_option maxHeartbeats 400000 in
theorem notNlC (w : World) : Cls w (.func (.func 105) #[] #[]) noNl := by
  refine ⟨_, _, rfl, fun args W => by kernel_rfl, fun c W hW => ?_⟩
  cases h : noNl c
  · have h' : ((c.toNat : Int) != 10) = false := by
      simp [noNl] at h; subst h; rfl
    have h3 : ((c.toNat : Int) == 10) = true := by
      simp [noNl] at h; subst h; rfl
    clear h
    go_enter Tryd.func105, Tryd.ntmps105
    go_wp2_with fail
    go_ret
    exact ⟨rfl, Below.refl _ _⟩
  · have h' : ((c.toNat : Int) != 10) = true := by
      simp [noNl] at h
      simp only [bne_iff_ne, ne_eq]
      intro e
      exact h (UInt8.toNat_inj.1 (by simpa using (Int.ofNat.inj e)))
    have h3 : ((c.toNat : Int) == 10) = false := by simpa [bne] using h'
    clear h
    go_enter Tryd.func105, Tryd.ntmps105
    go_wp2_with fail
    go_ret
    exact ⟨rfl, Below.refl _ _⟩

set_option maxRecDepth 100000 in
set_option maxHeartbeats 2000000 in
theorem skip_any (s : ByteArray) (w : World) (hs : s.size ≤ 9223372036854775807) :
    Calls Tryd.prog 50 #[.string s] w fun e w' => e = .returned (.int .i64 (skipN s.data.toList)) ∧ Below w.heap.size w w' := by
  go_enter Tryd.func50, Tryd.ntmps50
  go_wp2_with fail
  go_loopw [3] (fun i wr => ∃ n : Nat, n ≤ s.size ∧ i = .int .i64 n ∧ Below w.heap.size w wr ∧ Hid (skipL s.data.toList = skipL (s.data.toList.drop n))) (fun i _ => s.size - (intOf i).toNat)
  case atStart => exact ⟨0, Nat.zero_le _, rfl, Below.refl _ _, rfl⟩
  case round =>
    obtain ⟨n, hn, rfl, hbr, hk⟩ := hrel
    have e1 : (s.extract n s.size).data.toList = s.data.toList.drop n := Lib.extract_to_end s n
    have hsz1 : (s.extract n s.size).size ≤ 9223372036854775807 := by rw [ByteArray.size_extract]; omega
    have HR := fun (X : World) (v : Value) (h : Cls X v spB) => run_any (s.extract n s.size) v spB X hsz1 h
    rw [e1] at HR
    have hm1 : (List.takeWhile spB (s.data.toList.drop n)).length ≤ s.size - n := by
      have := (List.takeWhile_prefix (l := s.data.toList.drop n) spB).length_le
      simpa using this
    have hk1 : skipL s.data.toList = skipL (s.data.toList.drop (n + (List.takeWhile spB (s.data.toList.drop n)).length)) := hk.out.trans ((skip_sp _).trans (by rw [dropWhile_drop, List.drop_drop]))
    clear hk e1
    generalize hmm : (List.takeWhile spB (s.data.toList.drop n)).length = m at *
    have hdw : (s.data.toList.drop n).dropWhile spB = s.data.toList.drop (n + m) := by rw [dropWhile_drop, List.drop_drop, hmm]
    clear hmm
    have HR := hide HR
    have w1 : IntKind.i64.wrap ((n : Int) + (m : Int)) = (n : Int) + (m : Int) := IntWalk.i64_in _ (by omega)
    by_cases hend : n + m = s.size
    · have HF := hide (show skipN s.data.toList = s.size by
        unfold skipN
        rw [hk1, hend, List.drop_of_length_le (by simp)]
        simp [skipL, skipM])
      have hE := hide hend
      have t1 : (((n : Int) + (m : Int)) == (s.size : Int)) = true := by simp; omega
      clear hk1 hdw hend
      go_wp2_with fail
      go_region_with ((first | (go_at_call 104; refine (among_any _ _).mono ?_; rintro e x1 ⟨⟨v, rfl, hv⟩, hb1⟩) | (go_at_call 103; refine (HR.out _ v hv).mono ?_; rintro e x2 ⟨rfl, hb2⟩)))
      go_wp2_with fail
      go_ret
      have hB : Below w.heap.size w x2 := (hbr.drew.trans (hb1.mono hbr.size)).trans (hb2.mono (Nat.le_trans hbr.size hb1.size))
      exact ⟨ret_congr (by rw [HF.out, ← hE.out]; rfl), hB⟩
    have hlt : n + m < s.size := by omega
    have hltI : (n : Int) + (m : Int) < (s.size : Int) := by omega
    have t1 : (((n : Int) + (m : Int)) == (s.size : Int)) = false := by simp; omega
    have t2 : ((n : Int) + (m : Int)).toNat = n + m := by omega
    have hcons : s.data.toList.drop (n + m) = s[n + m] :: s.data.toList.drop (n + m + 1) := by
      rw [List.drop_eq_getElem_cons (by simpa using hlt)]; rfl
    have hnsp : spB s[n + m] = false := dropWhile_head (hdw.trans hcons)
    clear hend
    by_cases hc : s[n + m] = 35
    · have e1 : (s.extract (n + m) s.size).data.toList = s.data.toList.drop (n + m) := Lib.extract_to_end s (n + m)
      have hsz2 : (s.extract (n + m) s.size).size ≤ 9223372036854775807 := by rw [ByteArray.size_extract]; omega
      have HR2 := fun (X : World) => run_any (s.extract (n + m) s.size) _ noNl X hsz2 (notNlC X)
      rw [e1] at HR2
      have hm2 : (List.takeWhile noNl (s.data.toList.drop (n + m))).length ≤ s.size - (n + m) := by
        have := (List.takeWhile_prefix (l := s.data.toList.drop (n + m)) noNl).length_le
        simpa using this
      have hk2 : skipL s.data.toList = skipL (s.data.toList.drop (n + m + (List.takeWhile noNl (s.data.toList.drop (n + m))).length)) := by
        rw [hk1, hcons, skip_hash hc, ← hcons, dropWhile_drop, List.drop_drop]
      have hpos : 1 ≤ (List.takeWhile noNl (s.data.toList.drop (n + m))).length := by
        rw [hcons, List.takeWhile_cons, if_pos (by rw [hc]; decide)]; simp
      clear e1
      generalize (List.takeWhile noNl (s.data.toList.drop (n + m))).length = m2 at *
      have HR2 := hide HR2
      have w2 : IntKind.i64.wrap ((n : Int) + (m : Int) + (m2 : Int)) = (n : Int) + (m : Int) + (m2 : Int) := IntWalk.i64_in _ (by omega)
      have HK2 := hide hk2
      have hcI : ((s[n + m].toNat : Int) != 35) = false := by rw [hc]; rfl
      have hcI2 : ((s[n + m].toNat : Int) == 35) = true := by rw [hc]; rfl
      clear hk1 hk2 hdw hcons hnsp hc
      go_wp2_with fail
      go_region_with ((first | (go_at_call 104; refine (among_any _ _).mono ?_; rintro e x1 ⟨⟨v, rfl, hv⟩, hb1⟩) | (go_at_call 103; refine (HR.out _ v hv).mono ?_; rintro e x2 ⟨rfl, hb2⟩)))
      go_wp2_with (go_at_call 103; refine (HR2.out _).mono ?_; rintro e x3 ⟨rfl, hb3⟩)
      have hB : Below w.heap.size w x2 := (hbr.drew.trans (hb1.mono hbr.size)).trans (hb2.mono (Nat.le_trans hbr.size hb1.size))
      go_roundw
      case rel => exact ⟨n + m + m2, by omega, by go_num, hB.trans (hb3.mono hB.size), HK2⟩
      case measure => simp [intOf]; omega
    · have HF := hide (show skipN s.data.toList = n + m by
        unfold skipN
        rw [hk1, hcons, skip_stop hnsp hc, ← hcons]
        simp; omega)
      have hcI : ((s[n + m].toNat : Int) != 35) = true := by
        simp only [bne_iff_ne, ne_eq]
        intro e
        exact hc (UInt8.toNat_inj.1 (by simpa using (Int.ofNat.inj e)))
      have hcI2 : ((s[n + m].toNat : Int) == 35) = false := by simpa [bne] using hcI
      clear hk1 hdw hcons hnsp hc
      go_wp2_with fail
      go_region_with ((first | (go_at_call 104; refine (among_any _ _).mono ?_; rintro e x1 ⟨⟨v, rfl, hv⟩, hb1⟩) | (go_at_call 103; refine (HR.out _ v hv).mono ?_; rintro e x2 ⟨rfl, hb2⟩)))
      go_wp2_with fail
      have hB : Below w.heap.size w x2 := (hbr.drew.trans (hb1.mono hbr.size)).trans (hb2.mono (Nat.le_trans hbr.size hb1.size))
      go_ret
      exact ⟨ret_congr (by rw [HF.out]; go_num), hB⟩
end Go.Proofs.YtanhkeeifnimgaaDoor

namespace Go.Proofs.YtanhkeeifnimgaaDoor
open Go Go.RowKit Go.Proofs

def tokV (t : Tok) : Value := .agg #[.int .i64 t.kind, .string t.text, .int .i64 t.n, .int .i64 t.pos]
/-- a token and an error, as a function returns them -/
def TokRet (r : Tok × Int) (w : World) (e : Ending) (w' : World) : Prop := e = .returned (.tuple #[tokV r.1, .int .i64 r.2]) ∧ Below w.heap.size w w'

theorem Cls.form {w : World} {v : Value} {p : UInt8 → Bool} (h : Cls w v p) : ∃ g lb, v = .func (.func g) #[] lb := by
  obtain ⟨g, lb, rfl, _⟩ := h
  exact ⟨g, lb, rfl⟩
theorem cls_congr {w : World} {v : Value} {p q : UInt8 → Bool} (h : Cls w v p) (hq : ∀ c, p c = q c) : Cls w v q := by
  obtain rfl : p = q := funext hq
  exact h
theorem clsL_three {w : World} {v0 v1 v2 : Value} {p0 p1 p2 : UInt8 → Bool} {T : TypeId} (h0 : Cls w v0 p0) (h1 : Cls w v1 p1) (h2 : Cls w v2 p2) :
    ClsL (w.alloc (.cells #[v0, v1, v2] T)) (some ⟨w.heap.size, 0, none⟩) [v0, v1, v2] [p0, p1, p2] := by
  have hB : Below w.heap.size w (w.alloc (.cells #[v0, v1, v2] T)) := (Below.refl _ _).alloc (Nat.le_refl _) _
  refine ⟨(Reads.newRow w #[v0, v1, v2] T 3 1 rfl).more (by simp), rfl, fun i hi _ => ?_⟩
  match i, hi with
  | 0, _ => exact h0.below hB
  | 1, _ => exact h1.below hB
  | 2, _ => exact h2.below hB
theorem nm_any (c : UInt8) : [inB 97 122, inB 48 57, fun c => ((⟨#[95]⟩ : ByteArray) : ByteArray).data.toList.contains c].any (atB c) = nmC c := by
  simp only [List.any_cons, List.any_nil, Bool.or_false, atB, nmC, nameI]
  have : ((⟨#[95]⟩ : ByteArray) : ByteArray).data.toList.contains c = decide ((c.toNat : Int) = 95) := by
    rw [Bool.eq_iff_iff]
    simp
    constructor
    · rintro rfl; rfl
    · intro h; exact UInt8.toNat_inj.1 (by simp; omega)
  rw [this]
  show (letterI c.toNat || (digitI c.toNat || _)) = _
  rw [Bool.or_assoc]

set_option maxRecDepth 100000 in
set_option maxHeartbeats 2000000 in
theorem word_any (s : ByteArray) (w : World) (ha : Asc w) (hs : s.size ≤ 9223372036854775807) :
    Calls Tryd.prog 107 #[.string s] w (TokRet (wordT s) w) := by
  have HA := hide ha
  clear ha
  have hn0 : wordN s ≤ s.size := by
    have := (List.takeWhile_prefix (l := s.data.toList) nmC).length_le
    simpa [wordN] using this
  have HR : ∀ (X : World) (v : Value), Cls X v nmC → Calls Tryd.prog 103 #[.string s, v] X fun e w' => e = .returned (.int .i64 (wordN s)) ∧ Below X.heap.size X w' := fun X v h => run_any s v nmC X hs h
  have HR := hide HR
  have hw : wordT s = if 31 < wordN s then (noTok, 8) else (⟨if hasS keywords (s.extract 0 (wordN s)) then 2 else 1, s.extract 0 (wordN s), 0, 0⟩, 0) := rfl
  have HW := hide hw
  clear hw
  generalize wordN s = n at HW HR hn0
  by_cases h31 : 31 < n
  · have HT := hide (show wordT s = (noTok, 8) by rw [HW.out, if_pos h31])
    clear HW
    have h31' : (31 : Int) < (n : Int) := by omega
    go_enter Tryd.func107, Tryd.ntmps107
    go_wp2_with fail
    refine (from_any 97 122 _).mono ?_
    rintro e x1 ⟨⟨v1, rfl, hv1⟩, hb1⟩
    obtain ⟨g1, lb1, rfl⟩ := hv1.form
    go_wp2_with fail
    refine (from_any 48 57 _).mono ?_
    rintro e x2 ⟨⟨v2, rfl, hv2⟩, hb2⟩
    obtain ⟨g2, lb2, rfl⟩ := hv2.form
    go_wp2_with fail
    refine (among_any (⟨#[95]⟩ : ByteArray) _).mono ?_
    rintro e x3 ⟨⟨v3, rfl, hv3⟩, hb3⟩
    obtain ⟨g3, lb3, rfl⟩ := hv3.form
    have hL := clsL_three (T := 91) ((hv1.below hb2).below hb3) (hv2.below hb3) hv3
    go_wp2_with fail
    refine (anyOf_any _ 3 [.func (.func g1) #[] lb1, .func (.func g2) #[] lb2, .func (.func g3) #[] lb3] _ _ (by simp) hL).mono ?_
    rintro e x4 ⟨⟨v4, rfl, hv4⟩, hb4⟩
    go_wp2_with fail
    refine (HR.out _ v4 (cls_congr hv4 nm_any)).mono ?_
    rintro e x5 ⟨rfl, hb5⟩
    have hB0 : Below w.heap.size w (w.alloc (.cells #[.int .i64 0, .string ⟨#[]⟩, .int .i64 0, .int .i64 0] 33)) := (Below.refl _ _).alloc (Nat.le_refl _) _
    have hB3 := ((hB0.trans (hb1.mono hB0.size)).trans (hb2.mono (Nat.le_trans hB0.size hb1.size))).trans (hb3.mono (Nat.le_trans hB0.size (Nat.le_trans hb1.size hb2.size)))
    have hB3' := hB3.alloc hB3.size (.cells #[.func (.func g1) #[] lb1, .func (.func g2) #[] lb2, .func (.func g3) #[] lb3] 91)
    have hB5 := (hB3'.trans (hb4.mono hB3'.size)).trans (hb5.mono (Nat.le_trans hB3'.size hb4.size))
    have hD3 := (((Blk.new w 33 #[.int .i64 0, .string ⟨#[]⟩, .int .i64 0, .int .i64 0]).below hb1 (by simp)).below hb2 (by have := hb1.size; simp at this; omega)).below hb3 (by have := hb1.size; have := hb2.size; simp at *; omega)
    have hD5 := ((hD3.alloc (.cells #[.func (.func g1) #[] lb1, .func (.func g2) #[] lb2, .func (.func g3) #[] lb3] 91)).below hb4 (by have := hD3.lt; simp; omega)).below hb5 (by have := hD3.lt; have := hb4.size; simp at *; omega)
    have eZ := hD5.lt
    have d0 := hD5.cell 0
    have d1 := hD5.cell 1
    have d2 := hD5.cell 2
    have d3 := hD5.cell 3
    have f0 := hD5.frozen 0
    have f1 := hD5.frozen 1
    have f2 := hD5.frozen 2
    have f3 := hD5.frozen 3
    simp at d0 d1 d2 d3
    clear hb1 hb2 hb3 hb4 hb5 hB0 hB3 hB3' hD3 hv1 hv2 hv3 hv4 hL
    go_wp2_with fail
    exact bodyPost_ret (v := .tuple #[.agg #[.int .i64 0, .string ⟨#[]⟩, .int .i64 0, .int .i64 0], .int .i64 8]) (by simp [results, Tryd.results107, go_sem, *]) rfl ⟨by rw [HT.out]; rfl, by repeat (first | (with_reducible exact hB5) | (with_reducible refine Below.setCell ?_ (by simp) _))⟩
  · have h31' : ¬ (31 : Int) < (n : Int) := by omega
    have hnI : (n : Int) ≤ (s.size : Int) := by omega
    generalize hkw : hasS keywords (s.extract 0 n) = q
    have HW := hide (HW.out.trans (by rw [if_neg h31, hkw]))
    have HK := hide hkw
    clear hkw
    go_enter Tryd.func107, Tryd.ntmps107
    go_wp2_with fail
    refine (from_any 97 122 _).mono ?_
    rintro e x1 ⟨⟨v1, rfl, hv1⟩, hb1⟩
    obtain ⟨g1, lb1, rfl⟩ := hv1.form
    go_wp2_with fail
    refine (from_any 48 57 _).mono ?_
    rintro e x2 ⟨⟨v2, rfl, hv2⟩, hb2⟩
    obtain ⟨g2, lb2, rfl⟩ := hv2.form
    go_wp2_with fail
    refine (among_any (⟨#[95]⟩ : ByteArray) _).mono ?_
    rintro e x3 ⟨⟨v3, rfl, hv3⟩, hb3⟩
    obtain ⟨g3, lb3, rfl⟩ := hv3.form
    have hL := clsL_three (T := 91) ((hv1.below hb2).below hb3) (hv2.below hb3) hv3
    go_wp2_with fail
    refine (anyOf_any _ 3 [.func (.func g1) #[] lb1, .func (.func g2) #[] lb2, .func (.func g3) #[] lb3] _ _ (by simp) hL).mono ?_
    rintro e x4 ⟨⟨v4, rfl, hv4⟩, hb4⟩
    go_wp2_with fail
    refine (HR.out _ v4 (cls_congr hv4 nm_any)).mono ?_
    rintro e x5 ⟨rfl, hb5⟩
    have hB0 : Below w.heap.size w (w.alloc (.cells #[.int .i64 0, .string ⟨#[]⟩, .int .i64 0, .int .i64 0] 33)) := (Below.refl _ _).alloc (Nat.le_refl _) _
    have hB3 := ((hB0.trans (hb1.mono hB0.size)).trans (hb2.mono (Nat.le_trans hB0.size hb1.size))).trans (hb3.mono (Nat.le_trans hB0.size (Nat.le_trans hb1.size hb2.size)))
    have hB3' := hB3.alloc hB3.size (.cells #[.func (.func g1) #[] lb1, .func (.func g2) #[] lb2, .func (.func g3) #[] lb3] 91)
    have hB5 := (hB3'.trans (hb4.mono hB3'.size)).trans (hb5.mono (Nat.le_trans hB3'.size hb4.size))
    have hD3 := (((Blk.new w 33 #[.int .i64 0, .string ⟨#[]⟩, .int .i64 0, .int .i64 0]).below hb1 (by simp)).below hb2 (by have := hb1.size; simp at this; omega)).below hb3 (by have := hb1.size; have := hb2.size; simp at *; omega)
    have hD5 := ((hD3.alloc (.cells #[.func (.func g1) #[] lb1, .func (.func g2) #[] lb2, .func (.func g3) #[] lb3] 91)).below hb4 (by have := hD3.lt; simp; omega)).below hb5 (by have := hD3.lt; have := hb4.size; simp at *; omega)
    have eZ := hD5.lt
    have d0 := hD5.cell 0
    have d1 := hD5.cell 1
    have d2 := hD5.cell 2
    have d3 := hD5.cell 3
    have f0 := hD5.frozen 0
    have f1 := hD5.frozen 1
    have f2 := hD5.frozen 2
    have f3 := hD5.frozen 3
    simp at d0 d1 d2 d3
    clear hb1 hb2 hb3 hb4 hb5 hB0 hB3 hB3' hD3 hv1 hv2 hv3 hv4 hL
    go_wp2_with fail
    have hE : Blk (x5.alloc (.cells #[.int .i64 1, .string (s.extract 0 n), .int .i64 0, .int .i64 0] 33)) x5.heap.size 33 #[.int .i64 1, .string (s.extract 0 n), .int .i64 0, .int .i64 0] := Blk.new _ _ _
    have hDW := hD5.alloc (.cells #[.int .i64 1, .string (s.extract 0 n), .int .i64 0, .int .i64 0] 33)
    have hBW := hB5.alloc hB5.size (.cells #[.int .i64 1, .string (s.extract 0 n), .int .i64 0, .int .i64 0] 33)
    have hne : w.heap.size ≠ x5.heap.size := by omega
    have hgl : w.heap.size ≤ x5.heap.size := by omega
    clear d0 d1 d2 d3 f0 f1 f2 f3 hD5 hB5 eZ
    generalize x5.alloc (.cells #[.int .i64 1, .string (s.extract 0 n), .int .i64 0, .int .i64 0] 33) = W at *
    generalize x5.heap.size = gt at *
    have eZ := hE.lt
    have eC := hE.cell 1
    simp at eC
    go_region_held3 (fun X => X.cell? ⟨gt, 1, none⟩ = some (.string (s.extract 0 n)) ∧ gt < X.heap.size ∧ Below W.heap.size W X) ((first | (go_keep; done) | (refine ⟨?_, ?_, ?_⟩ <;> (first | assumption | exact (Below.refl _ _).drew | exact eC | exact eZ))))
      ((first
        | (go_at_call 92; have hH := (by assumption : _ ∧ gt < _ ∧ Below W.heap.size W _); obtain ⟨a0, aZ, aB⟩ := hH; refine (keywords_prog _ (Asc.below HA.out (Nat.le_refl _) (hBW.trans (aB.mono hBW.size)))).mono ?_; rintro e x6 ⟨rfl, hkw, hb6⟩; have c0 := (hb6.cell (p := ⟨gt, 1, none⟩) aZ).trans a0; have cZ := Nat.lt_of_lt_of_le aZ hb6.size; have cB := aB.trans (hb6.mono aB.size); clear a0 aZ aB hb6)
        | (go_at_call 91; refine (contains_strs _ _ keywords (s.extract 0 n) _ (by decide) hkw).mono ?_; rw [HK.out]; rintro e x7 ⟨rfl, rfl⟩)))
    all_goals
      have hE6 := hE.below cB eZ
      have hD6 := hDW.below cB hDW.lt
      have hB6 := hBW.trans (cB.mono hBW.size)
      clear cB hE hDW hBW
      have e0 := hE6.cell 0
      have e1 := hE6.cell 1
      have e2 := hE6.cell 2
      have e3 := hE6.cell 3
      have k0 := hE6.frozen 0
      have d0 := hD6.cell 0
      have d1 := hD6.cell 1
      have d2 := hD6.cell 2
      have d3 := hD6.cell 3
      have f0 := hD6.frozen 0
      have f1 := hD6.frozen 1
      have f2 := hD6.frozen 2
      have f3 := hD6.frozen 3
      simp at e0 e1 e2 e3 d0 d1 d2 d3
      have hne2 : ¬ gt = w.heap.size := fun h => hne h.symm
      have hgw : w.heap.size ≤ gt := by omega
      have HNE := hide hne
      clear hne
      cases q
      · go_wp2_with fail
        refine bodyPost_ret (v := .tuple #[.agg #[.int .i64 1, .string (s.extract 0 n), .int .i64 0, .int .i64 0], .int .i64 0]) (by simp [results, Tryd.results107, go_sem, *]) rfl ⟨by rw [HW.out]; rfl, ?_⟩
        repeat (first | (with_reducible exact hB6) | (with_reducible refine Below.setCell ?_ (by simp <;> omega) _))
      · go_wp2_with fail
        refine bodyPost_ret (v := .tuple #[.agg #[.int .i64 2, .string (s.extract 0 n), .int .i64 0, .int .i64 0], .int .i64 0]) (by simp [results, Tryd.results107, go_sem, *]) rfl ⟨by rw [HW.out]; rfl, ?_⟩
        repeat (first | (with_reducible exact hB6) | (with_reducible refine Below.setCell ?_ (by simp <;> omega) _))
end Go.Proofs.YtanhkeeifnimgaaDoor
