/- The walk of catalog.IsName: it answers as isName. Conditions: lengths that fit memory; the table strings.asciiSpace is laid. -/
import Derived.Test.YtanhkeeifnimgaaGreatDoorSyn17a
namespace Go.Proofs.YtanhkeeifnimgaaGreatDoor
open Go Go.RowKit Go.Proofs

/-- the table that strings.Fields reads -/
def Asc (w : World) : Prop := Lib.TabIs Tryz.prog w "strings.asciiSpace" .u8 Lib.asciiSpaceTab
theorem tabIs_below {P : Program} {n : String} {g B : Nat} {k : IntKind} {zs : List Int} {w w' : World} (hg : P.globalNamed n = some g) (h : Lib.TabIs P w n k zs) (hB : g < B) (hb : Below B w w') : Lib.TabIs P w' n k zs := by
  unfold Lib.TabIs World.var? at h ⊢
  rw [hg] at h ⊢
  simp only [Option.bind_some] at h ⊢
  rw [hb.block g hB]
  exact h
theorem tabIs_lt {P : Program} {n : String} {g : Nat} {k : IntKind} {zs : List Int} {w : World} (hg : P.globalNamed n = some g) (h : Lib.TabIs P w n k zs) : g < w.heap.size := by
  unfold Lib.TabIs World.var? at h
  rw [hg] at h
  simp only [Option.bind_some] at h
  rcases Nat.lt_or_ge g w.heap.size with h' | h'
  · exact h'
  · rw [Array.getElem?_eq_none h'] at h; cases h
theorem Asc.below {w w' : World} {B : Nat} (h : Asc w) (hB : w.heap.size ≤ B) (hb : Below B w w') : Asc w' :=
  have hg : Tryz.prog.globalNamed "strings.asciiSpace" = some 0 := by kernel_rfl
  tabIs_below hg h (Nat.lt_of_lt_of_le (tabIs_lt hg h) hB) hb

def kwText : ByteArray := (⟨#[97, 108, 119, 97, 121, 115, 32, 98, 101, 102, 111, 114, 101, 32, 98, 121, 32, 99, 97, 112, 97, 99, 105, 116, 121, 32, 100, 97, 114, 107, 32, 100, 105, 115, 116, 117, 114, 98, 32, 102, 97, 105, 108, 117, 114, 101, 115, 32, 102, 101, 101, 100, 32, 103, 114, 111, 117, 112, 32, 105, 110, 32, 106, 111, 98, 32, 107, 101, 101, 112, 32, 108, 105, 110, 107, 32, 108, 111, 97, 100, 32, 109, 97, 99, 104, 105, 110, 101, 32, 111, 110, 32, 111, 110, 108, 121, 32, 111, 114, 100, 101, 114, 32, 112, 111, 111, 108, 32, 113, 117, 111, 114, 117, 109, 32, 114, 97, 99, 107, 32, 114, 101, 115, 101, 114, 118, 101, 32, 115, 104, 97, 114, 101, 32, 115, 105, 108, 101, 110, 99, 101, 32, 115, 105, 116, 101, 32, 115, 105, 122, 101, 32, 115, 108, 111, 116, 115, 32, 115, 112, 114, 101, 97, 100]⟩ : ByteArray)
theorem kw_fields : (Lib.fields kwText.data.toList).map (fun l => Value.string ⟨l.toArray⟩) = keywords.map Value.string := by kernel_rfl
theorem kw_len : (Lib.fields kwText.data.toList).length = keywords.length := by kernel_rfl
theorem kw_ascii : kwText.data.toList.all (fun b => decide (b.toNat < 128)) = true := by kernel_rfl
theorem kw_size : kwText.size < 4294967281 := by decide +kernel

set_option maxHeartbeats 1000000 in
set_option maxRecDepth 100000 in
theorem keywords_prog (w : World) (ha : Asc w) : Calls Tryz.prog 91 #[] w fun e w' => e = .returned (.slice (some ⟨w.heap.size, 0, none⟩) keywords.length keywords.length) ∧ Strs w' w'.heap.size (some ⟨w.heap.size, 0, none⟩) keywords ∧ Below w.heap.size w w' := by
  have hf := Tryz.strings_Fields kwText w kw_size (fun j b h => by
    have := List.all_eq_true.1 kw_ascii b (List.mem_of_getElem? h)
    simpa using this) ha
  rw [kw_fields, kw_len] at hf
  have HF := hide hf; clear hf
  go_enter Tryz.func91, Tryz.ntmps91
  go_wp2_with fail
  refine Calls.mono (HF.out) ?_
  rintro e w' ⟨rfl, rfl⟩
  go_wp2_with fail
  go_ret
  exact ⟨rfl, (Strs.newRow w 9 keywords).more (by simp), (Below.refl _ _).alloc (Nat.le_refl _) _⟩

/-- what IsName$1 answers -/
def oddI (c : Int) : Bool := !nameI c
set_option maxHeartbeats 400000 in
theorem odd_rune (c : Int) (w : World) : Calls Tryz.prog 88 #[.int .i32 c] w fun e w' => e = .returned (.bool (oddI c)) ∧ w = w' := by
  have h95 : ∃ b, (c != 95) = b := ⟨_, rfl⟩
  obtain ⟨b, h95⟩ := h95
  have HO := hide (show oddI c = !(letterI c || digitI c || !b) by simp [oddI, nameI, ← h95]; rfl)
  have HL := hide (show letterI c = (decide (97 ≤ c) && decide (c ≤ 122)) from rfl)
  have HD := hide (show digitI c = (decide (48 ≤ c) && decide (c ≤ 57)) from rfl)
  by_cases h1 : c < 97 <;> by_cases h2 : 122 < c <;> by_cases h3 : c < 48 <;> by_cases h4 : 57 < c <;> cases b
  all_goals first
    | (exfalso; omega)
    | (go_enter Tryz.func88, Tryz.ntmps88
       go_wp2
       go_ret
       exact ⟨ret_congr (by rw [HO.out, HL.out, HD.out]; simp only [show decide (97 ≤ c) = !decide (c < 97) by simp [← decide_not], show decide (c ≤ 122) = !decide (122 < c) by simp [← decide_not], show decide (48 ≤ c) = !decide (c < 48) by simp [← decide_not], show decide (c ≤ 57) = !decide (57 < c) by simp [← decide_not]]; simp [*]), rfl⟩)
end Go.Proofs.YtanhkeeifnimgaaGreatDoor
