/- The walk of catalog.IsName: it answers as isName. Conditions: lengths that fit memory; the table strings.asciiSpace is laid. -/
import Derived.Test.YtanhkeeifnimgaaDoorSyn17a

namespace Go.Proofs.YtanhkeeifnimgaaDoor
open Go Go.RowKit Go.Proofs

/-- the table that strings.Fields reads -/
def Asc (w : World) : Prop := Lib.TabIs Tryd.prog w "strings.asciiSpace" .u8 Lib.asciiSpaceTab
theorem tabIs_below {P : Program} {n : String} {g B : Nat} {k : IntKind} {zs : List Int} {w w' : World} (hg : P.globalNamed n = some g) (h : Lib.TabIs P w n k zs) (hB : g < B) (hb : Below B w w') : Lib.TabIs P w' n k zs := by
  unfold Lib.TabIs World.var? at h ⊢
  rw [hg] at h ⊢
  simp only [Option.bind_some] at h ⊢
  rw [hb.block g hB]
  exact h
theorem tabIs_lt {P : Program} {n : String} {g : Nat} {k : IntKind} {zs : List Int} {w : World} (hg : P.globalNamed n = some g) (h : Lib.TabIs P w n k zs) : g < w.heap.size := by
  unfold Lib.TabIs World.var? at h
  rw [hg] at h
  simp only [Option.bind_some] at h
  rcases Nat.lt_or_ge g w.heap.size with h' | h'
  · exact h'
  · rw [Array.getElem?_eq_none h'] at h; cases h
theorem Asc.below {w w' : World} {B : Nat} (h : Asc w) (hB : w.heap.size ≤ B) (hb : Below B w w') : Asc w' :=
  have hg : Tryd.prog.globalNamed "strings.asciiSpace" = some 0 := by kernel_rfl
  tabIs_below hg h (Nat.lt_of_lt_of_le (tabIs_lt hg h) hB) hb

def kwText : ByteArray := (⟨#[97, 108, 119, 97, 121, 115, 32, 98, 101, 102, 111, 114, 101, 32, 98, 121, 32, 99, 97, 112, 97, 99, 105, 116, 121, 32, 100, 97, 114, 107, 32, 100, 105, 115, 116, 117, 114, 98, 32, 102, 97, 105, 108, 117, 114, 101, 115, 32, 102, 101, 101, 100, 32, 103, 114, 111, 117, 112, 32, 105, 110, 32, 106, 111, 98, 32, 107, 101, 101, 112, 32, 108, 105, 110, 107, 32, 108, 111, 97, 100, 32, 109, 97, 99, 104, 105, 110, 101, 32, 111, 110, 32, 111, 110, 108, 121, 32, 111, 114, 100, 101, 114, 32, 112, 111, 111, 108, 32, 113, 117, 111, 114, 117, 109, 32, 114, 97, 99, 107, 32, 114, 101, 115, 101, 114, 118, 101, 32, 115, 104, 97, 114, 101, 32, 115, 105, 108, 101, 110, 99, 101, 32, 115, 105, 116, 101, 32, 115, 105, 122, 101, 32, 115, 108, 111, 116, 115, 32, 115, 112, 114, 101, 97, 100]⟩ : ByteArray)
theorem kw_fields : (Lib.fields kwText.data.toList).map (fun l => Value.string ⟨l.toArray⟩) = keywords.map Value.string := by kernel_rfl
theorem kw_len : (Lib.fields kwText.data.toList).length = keywords.length := by kernel_rfl
theorem kw_ascii : kwText.data.toList.all (fun b => decide (b.toNat < 128)) = true := by kernel_rfl
theorem kw_size : kwText.size < 4294967281 := by decide +kernel

set_option maxHeartbeats 1000000 in
set_option maxRecDepth 100000 in
theorem keywords_prog (w : World) (ha : Asc w) : Calls Tryd.prog 92 #[] w fun e w' => e = .returned (.slice (some ⟨w.heap.size, 0, none⟩) keywords.length keywords.length) ∧ Strs w' w'.heap.size (some ⟨w.heap.size, 0, none⟩) keywords ∧ Below w.heap.size w w' := by
  have hf := Tryd.strings_Fields kwText w kw_size (fun j b h => by
    have := List.all_eq_true.1 kw_ascii b (List.mem_of_getElem? h)
    simpa using this) ha
  rw [kw_fields, kw_len] at hf
  have HF := hide hf; clear hf
  go_enter Tryd.func92, Tryd.ntmps92
  go_wp2_with fail
  refine Calls.mono (HF.out) ?_
  rintro e w' ⟨rfl, rfl⟩
  go_wp2_with fail
  go_ret
  exact ⟨rfl, (Strs.newRow w 9 keywords).more (by simp), (Below.refl _ _).alloc (Nat.le_refl _) _⟩

/-- what IsName$1 answers -/
def oddI (c : Int) : Bool := !nameI c
set_option maxHeartbeats 400000 in
theorem odd_rune (c : Int) (w : World) : Calls Tryd.prog 89 #[.int .i32 c] w fun e w' => e = .returned (.bool (oddI c)) ∧ w = w' := by
  have h95 : ∃ b, (c != 95) = b := ⟨_, rfl⟩
  obtain ⟨b, h95⟩ := h95
  have HO := hide (show oddI c = !(letterI c || digitI c || !b) by simp [oddI, nameI, ← h95]; rfl)
  have HL := hide (show letterI c = (decide (97 ≤ c) && decide (c ≤ 122)) from rfl)
  have HD := hide (show digitI c = (decide (48 ≤ c) && decide (c ≤ 57)) from rfl)
  by_cases h1 : c < 97 <;> by_cases h2 : 122 < c <;> by_cases h3 : c < 48 <;> by_cases h4 : 57 < c <;> cases b
  all_goals first
    | (exfalso; omega)
    | (go_enter Tryd.func89, Tryd.ntmps89
       go_wp2
       go_ret
       exact ⟨ret_congr (by rw [HO.out, HL.out, HD.out]; simp only [show decide (97 ≤ c) = !decide (c < 97) by simp [← decide_not], show decide (c ≤ 122) = !decide (122 < c) by simp [← decide_not], show decide (48 ≤ c) = !decide (c < 48) by simp [← decide_not], show decide (c ≤ 57) = !decide (57 < c) by simp [← decide_not]]; simp [*]), rfl⟩)
end Go.Proofs.YtanhkeeifnimgaaDoor

namespace Go.Proofs.YtanhkeeifnimgaaDoor
open Go Go.RowKit Go.Proofs

theorem containsS_eq (l : List ByteArray) (x : ByteArray) : Lib.containsS l x = hasS l x := by
  rw [Bool.eq_iff_iff, hasS_iff, Lib.containsS_iff]
theorem contains_strs (A : Option Addr) (c : Nat) (l : List ByteArray) (s : ByteArray) (w : World) (hl : l.length ≤ 9223372036854775807) (h : Strs w w.heap.size A l) :
    Calls Tryd.prog 91 #[.slice A l.length c, .string s] w fun e w' => e = .returned (.bool (hasS l s)) ∧ w = w' := by
  by_cases hn : l = []
  · subst hn
    exact (Tryd.slices_Contains_string_empty A c s w).mono fun e w' ⟨he, hw⟩ => ⟨by rw [he]; rfl, hw.symm⟩
  · obtain ⟨b, off, rfl, hb, hc⟩ := h.form hn
    refine (Tryd.slices_Contains_string b off l.length c l s w (Nat.le_refl _) hl hc).mono fun e w' ⟨he, hw⟩ => ⟨?_, hw.symm⟩
    rw [he, containsS_eq, List.take_length]

/-- IndexFunc for 'a byte that no name has' -/
theorem idxFrom_name (s : ByteArray) : ∀ (f pos : Nat), s.size ≤ pos + f → (0 ≤ Lib.idxFuncFrom (fun x => oddI x) true s f pos ↔ ∃ j, ∃ h : j < s.size, pos ≤ j ∧ nameI s[j].toNat = false)
  | 0, pos, hf => by
    simp only [Lib.idxFuncFrom]
    constructor
    · intro h; omega
    · rintro ⟨j, h, hj, _⟩; omega
  | f + 1, pos, hf => by
    unfold Lib.idxFuncFrom
    by_cases hp : pos < s.size
    · rw [if_pos hp]
      rcases Nat.lt_or_ge (s[pos].toNat) 128 with ha | ha
      · rw [decode_ascii s pos hp ha]
        cases hn : nameI s[pos].toNat
        · rw [if_pos (by simp [oddI, hn])]
          exact ⟨fun _ => ⟨pos, hp, Nat.le_refl _, hn⟩, fun _ => by omega⟩
        · rw [if_neg (by simp [oddI, hn]), idxFrom_name s f (pos + 1) (by omega)]
          constructor
          · rintro ⟨j, h, hj, hx⟩; exact ⟨j, h, by omega, hx⟩
          · rintro ⟨j, h, hj, hx⟩
            refine ⟨j, h, ?_, hx⟩
            rcases Nat.lt_or_ge pos j with h1 | h1
            · omega
            · obtain rfl : j = pos := by omega
              rw [hn] at hx; cases hx
      · obtain ⟨h1, h2⟩ := decode_high s pos hp ha
        have hod : ∀ n : Nat, 128 ≤ n → oddI n = true := by
          intro n hn
          simp [oddI, nameI, letterI, digitI]; omega
        rw [if_pos (hod _ h1)]
        refine ⟨fun _ => ⟨pos, hp, Nat.le_refl _, ?_⟩, fun _ => by omega⟩
        have := hod _ ha
        simpa [oddI] using this
    · rw [if_neg hp]
      constructor
      · intro h; omega
      · rintro ⟨j, h, hj, _⟩; omega
theorem idx_name (s : ByteArray) : decide (0 ≤ Lib.idxFunc (fun x => oddI x) true s) = !s.data.toList.all (fun c => nameI c.toNat) := by
  rw [Lib.idxFunc, Bool.eq_iff_iff, decide_eq_true_eq, idxFrom_name s s.size 0 (by omega)]
  rw [Bool.not_eq_true', Bool.eq_false_iff, Ne, all_iff s (fun c => nameI c.toNat)]
  constructor
  · rintro ⟨j, h, _, hx⟩ hall
    rw [hall j h] at hx; cases hx
  · intro hall
    refine Classical.byContradiction fun hne => hall fun j h => ?_
    cases hx : nameI s[j].toNat
    · exact absurd ⟨j, h, Nat.zero_le _, hx⟩ hne
    · rfl

set_option maxHeartbeats 1000000 in
theorem isName_prog (s : ByteArray) (w : World) (ha : Asc w) (hs : s.size ≤ 9223372036854775807) :
    Calls Tryd.prog 35 #[.string s] w fun e w' => e = .returned (.bool (isName s)) ∧ Below w.heap.size w w' := by
  by_cases h1 : s.size < 1
  · have HN := hide (isName_short h1)
    go_enter Tryd.func35, Tryd.ntmps35
    go_wp2
    go_ret
    exact ⟨ret_congr (by rw [HN.out]; rfl), Below.refl _ _⟩
  by_cases h2 : 31 < s.size
  · have HN := hide (isName_long h2)
    go_enter Tryd.func35, Tryd.ntmps35
    go_wp2
    go_ret
    exact ⟨ret_congr (by rw [HN.out]; rfl), Below.refl _ _⟩
  cases h3 : letterI s[0].toNat
  · have HN := hide (isName_first (by omega) h3)
    unfold letterI at h3
    by_cases h4 : (97 : Int) ≤ s[0].toNat
    · have h5 : ¬ ((s[0].toNat : Int) ≤ 122) := by intro h5; simp [h4, h5] at h3
      clear h3
      go_enter Tryd.func35, Tryd.ntmps35
      go_wp2
      go_ret
      exact ⟨ret_congr (by rw [HN.out]; rfl), Below.refl _ _⟩
    · clear h3
      go_enter Tryd.func35, Tryd.ntmps35
      go_wp2
      go_ret
      exact ⟨ret_congr (by rw [HN.out]; rfl), Below.refl _ _⟩
  have hN : isName s = ((s.data.toList.all (fun c => nameI c.toNat)) && !hasS keywords s) := by
    unfold isName
    rw [getD_zero s (by omega), h3]
    have e1 : 1 ≤ s.size := by omega
    have e2 : s.size ≤ 31 := by omega
    simp only [e1, e2, decide_true, Bool.true_and]
    rw [Bool.and_comm]
  have hI := idx_name s
  unfold letterI at h3
  simp only [Bool.and_eq_true, decide_eq_true_eq] at h3
  obtain ⟨h4, h5⟩ := h3
  have hpred : PredGrows Tryd.prog 89 #[] (fun x => oddI x) w := fun W x _ _ =>
    (odd_rune x W).mono fun e w' ⟨he, hw⟩ => ⟨he, hw ▸ Below.refl _ _⟩
  have hcf := Tryd.strings_ContainsFunc_grows 89 #[] (fun _ _ => by kernel_rfl) (fun x => oddI x) s w hpred
  rw [hI] at hcf
  have HC := hide hcf
  clear hcf hpred hI
  cases hall : s.data.toList.all (fun c => nameI c.toNat)
  · rw [hall] at hN HC
    have HN := hide (show isName s = false from hN)
    clear hN
    have HA := hide hall; clear hall
    go_enter Tryd.func35, Tryd.ntmps35
    go_wp2_with (first
      | (go_at_call 90; refine Calls.mono HC.out ?_; rintro e w1 ⟨rfl, hb1⟩))
    go_ret
    exact ⟨ret_congr (by rw [HN.out]; rfl), hb1⟩
  · rw [hall] at hN HC
    have HA := hide hall; clear hall
    cases hk : hasS keywords s
    all_goals
      rw [hk] at hN
      have HN := hide hN
      clear hN
      go_enter Tryd.func35, Tryd.ntmps35
      go_wp2_with (first
        | (go_at_call 90; refine Calls.mono HC.out ?_; rintro e w1 ⟨rfl, hb1⟩)
        | (go_at_call 92; refine (keywords_prog _ (Asc.below ha (Nat.le_refl _) hb1)).mono ?_; rintro e w2 ⟨rfl, hA, hb2⟩)
        | (go_at_call 91; refine (contains_strs _ _ keywords s _ (by decide) hA).mono ?_; rintro e w' ⟨rfl, rfl⟩))
      go_ret
      exact ⟨ret_congr (by rw [HN.out]; rfl), hb1.trans (hb2.mono hb1.size)⟩
end Go.Proofs.YtanhkeeifnimgaaDoor
