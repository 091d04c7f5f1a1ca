/- (*strings.Builder).WriteString, taken out of the laying of strings.Join; the walk of syntax.Format. Conditions: lengths that fit memory; the tables are laid. -/
import Derived.Test.YtanhkeeifnimgaaDoorSyn17t
import Derived.Test.YtanhkeeifnimgaaDoorSyn17q
namespace Go.Proofs.YtanhkeeifnimgaaDoor
open Go Go.RowKit Go.Proofs

theorem writeString_any (B b : Nat) (bs : List Value) (s : ByteArray) (w : World) (h : Lib.IsBuilder 70 5 B b bs w) (hlen : bs.length + s.size ≤ 140737488355328) (hBw : B ≤ w.heap.size) :
    Calls Tryd.prog 44 #[.pointer (some ⟨b, 0, none⟩), .string s] w fun e w' => e = .returned (.tuple #[.int .i64 s.size, .nilIface]) ∧ (Lib.BuilderAt 70 5 B b (.pointer (some ⟨b, 0, none⟩)) (bs ++ Lib.strCells s) w' ∧ Below B w w') :=
  Any.Builder_WriteString (ρ := Tryd.lays156_ren) { Tryd.lays156 with } Tryd.Builder_Extra_156 B b bs s w h hlen hBw
theorem builder_below {T e : TypeId} {B b : Nat} {p : Value} {bs : List Value} {w w' : World} (h : Lib.BuilderAt T e B b p bs w) (hb : Below w.heap.size w w') : Lib.BuilderAt T e B b p bs w' := by
  obtain ⟨hB, v, hbk, hown, hne⟩ := h
  have hlt : b < w.heap.size := by
    rcases Nat.lt_or_ge b w.heap.size with h' | h'
    · exact h'
    · rw [Array.getElem?_eq_none h'] at hbk; cases hbk
  refine ⟨hB, v, (hb.block b hlt).trans hbk, World.ownsRow.kept hown (grown_of_below hb none) ?_, hne⟩
  cases hv : v.ownBlock
  · exact .inl rfl
  · exact .inr (by simp)
theorem isBuilder_below {T e : TypeId} {B b : Nat} {bs : List Value} {w w' : World} (h : Lib.IsBuilder T e B b bs w) (hb : Below w.heap.size w w') : Lib.IsBuilder T e B b bs w' :=
  h.elim (fun x => .inl (builder_below x hb)) (fun x => .inr (builder_below x hb))

def okD (d : Decl) : Bool := validB d.kind d.name d.refs d.nums d.by_ d.always
def textD (d : Decl) : ByteArray := textB d.kind d.name d.refs d.nums d.by_ d.always
/-- the texts of declarations, each with a line feed -/
def cat (l : List Decl) : List UInt8 := (l.map fun d => (textD d).data.toList ++ [10]).flatten
def formatL (l : List Decl) : List UInt8 := if l.all okD then cat l else []
theorem textS_size {k : Int} {f : Form} (hfm : form? k = some f) {words : List ByteArray} (h : Small words) : 2 ≤ (textS f words).size ∧ (textS f words).size ≤ 40050 := by
  have h1 := word_size hfm
  have h2 := joinS_size _ h
  have h3 : ((⟨#[32]⟩ : ByteArray) : ByteArray).size = 1 := rfl
  have h4 : ((⟨#[59]⟩ : ByteArray) : ByteArray).size = 1 := rfl
  unfold textS
  rw [ByteArray.size_append, ByteArray.size_append, ByteArray.size_append]
  omega
theorem textD_valid {d : Decl} (h : okD d = true) : 2 ≤ (textD d).size ∧ (textD d).size ≤ 40050 := by
  have h' := h
  unfold okD at h'
  unfold textD textB
  rw [h']
  cases hfm : form? d.kind with
  | none => rw [validB_none hfm] at h'; cases h'
  | some f => exact textS_size hfm (words_small hfm h')
theorem textD_not {d : Decl} (h : okD d = false) : textD d = ⟨#[]⟩ := by
  unfold okD at h
  unfold textD textB
  rw [h]; rfl
theorem cat_take {l : List Decl} {k : Nat} (h : k < l.length) : cat (l.take (k + 1)) = cat (l.take k) ++ ((textD l[k]).data.toList ++ [10]) := by
  rw [take_snoc l k h, cat, List.map_append, List.flatten_append]; simp [cat]
theorem cat_len : ∀ (l : List Decl), l.all okD = true → (cat l).length ≤ l.length * 40051
  | [], _ => by simp [cat]
  | d :: l, h => by
    simp only [List.all_cons, Bool.and_eq_true] at h
    have h1 := cat_len l h.2
    have h2 := textD_valid h.1
    have h3 : (textD d).data.toList.length = (textD d).size := by simp
    simp only [cat, List.map_cons, List.flatten_cons, List.length_append, List.length_cons, List.length_nil] at h1 ⊢
    omega

set_option maxRecDepth 100000 in
set_option maxHeartbeats 4000000 in
theorem format_prog (A : Option Addr) (c : Nat) (l : List Decl) (w : World) (ha : Asc w) (hp : Pow w) (h : Decls w w.heap.size A l) (hl : l.length ≤ 65536) :
    Calls Tryd.prog 22 #[.slice A l.length c] w fun e w' => e = .returned (.string (S (formatL l))) ∧ Below w.heap.size w w' := by
  have HA := hide ha
  have HP := hide hp
  clear ha hp
  go_enter Tryd.func22, Tryd.ntmps22
  go_wp2_with fail
  go_loopw [9] (fun i wr => ∃ k : Nat, k ≤ l.length ∧ i = .int .i64 k ∧ Lib.IsBuilder 70 5 w.heap.size w.heap.size (Lib.byteCells (cat (l.take k))) wr ∧ Below w.heap.size w wr ∧ w.heap.size < wr.heap.size ∧ Hid ((l.take k).all okD = true)) (fun i _ => l.length - (intOf i).toNat)
  case atStart => exact ⟨0, Nat.zero_le _, rfl, .inl ⟨Nat.le_refl _, _, heap_alloc_new w _, by simpa [cat, Lib.byteCells] using World.ownsRow_nil _ _ _ _, by simp [Value.ownBlock]⟩, (Below.refl _ _).alloc (Nat.le_refl _) _, by simp, hide (by simp)⟩
  case round =>
    obtain ⟨k, hk, rfl, hB, hbr, hsz, hall⟩ := hrel
    by_cases hlt : k < l.length
    · obtain ⟨b1, o1, ra, rc, na, nc, rfl, hb1, x0, x1, x2, x3, x4, x5, hrc, hr, hn, hf⟩ := (h.below hbr).at_ hlt
      have hb1' : b1 < wr.heap.size := Nat.lt_of_lt_of_le hb1 hbr.size
      have hbw : Below w.heap.size w (wr.alloc (.cells #[.int .i64 l[k].kind, .string l[k].name, .slice ra l[k].refs.length rc, .slice na l[k].nums.length nc, .int .i64 l[k].by_, .bool l[k].always] 38)) := hbr.alloc hbr.size _
      have hct := text_prog l[k].kind l[k].name ra l[k].refs rc na l[k].nums nc l[k].by_ l[k].always _ (Asc.below HA.out (Nat.le_refl _) hbw) (Pow.below HP.out (Nat.le_refl _) hbw) hf.1 hf.2.1 hf.2.2.1 hf.2.2.2 hrc ((hr.keep fun p hp => World.cell?_alloc_lt _ _ _ (Nat.lt_of_lt_of_le hp hbr.size)).more hbw.size) ((hn.keep fun p hp => World.cell?_alloc_lt _ _ _ (Nat.lt_of_lt_of_le hp hbr.size)).more hbw.size)
      have HCT := hide hct
      clear hct
      cases hv : okD l[k]
      · have HT := hide (textD_not hv)
        have hne : (textD l[k]).toList.isEmpty = true := by rw [HT.out, ByteArray.toList_eq]; rfl
        have hne' : (textB l[k].kind l[k].name l[k].refs l[k].nums l[k].by_ l[k].always).toList.isEmpty = true := hne
        clear hne
        have HF := hide (show formatL l = [] by simp [formatL, all_false_at hlt hv])
        go_wp2_with (go_at_call 18; refine Calls.mono HCT.out ?_; rintro e w3 ⟨rfl, hb3⟩)
        go_ret
        exact ⟨ret_congr (by rw [HF.out]; rfl), hbw.trans (hb3.mono hbw.size)⟩
      · have HT := hide (textD_valid hv)
        have hne' : (textB l[k].kind l[k].name l[k].refs l[k].nums l[k].by_ l[k].always).toList.isEmpty = false := by
          rw [Bool.eq_false_iff, Ne, isEmpty_iff]
          have := HT.out
          unfold textD at this
          omega
        have hcl := cat_len (l.take k) hall
        have hct := cat_take hlt
        have HCA := hide hct
        clear hct
        have q1 : ∀ W, (Op.stringOp .add (textB l[k].kind l[k].name l[k].refs l[k].nums l[k].by_ l[k].always) (⟨#[10]⟩ : ByteArray)).run Tryd.prog W = .ok (.string (textB l[k].kind l[k].name l[k].refs l[k].nums l[k].by_ l[k].always ++ (⟨#[10]⟩ : ByteArray))) W := fun W => run_string_add_sum W _ _ (by
          have := HT.out
          unfold textD at this
          have h4 : ((⟨#[10]⟩ : ByteArray) : ByteArray).size = 1 := rfl
          omega)
        have hlen1 : (Lib.byteCells (cat (l.take k))).length ≤ 65536 * 40051 := by
          rw [Lib.byteCells_length]
          have : (l.take k).length * 40051 ≤ 65536 * 40051 := Nat.mul_le_mul (by simp; omega) (Nat.le_refl _)
          omega
        have hlen2 : (textB l[k].kind l[k].name l[k].refs l[k].nums l[k].by_ l[k].always ++ (⟨#[10]⟩ : ByteArray)).size ≤ 40051 := by
          have := HT.out
          unfold textD at this
          rw [ByteArray.size_append]
          have h4 : ((⟨#[10]⟩ : ByteArray) : ByteArray).size = 1 := rfl
          omega
        have HL1 := hide hlen1
        have HL2 := hide hlen2
        clear hlen1 hlen2 hcl
        go_wp2_with (first
          | (go_at_call 18; refine Calls.mono HCT.out ?_; rintro e w3 ⟨rfl, hb3⟩; have hbw3 := hbw.trans (hb3.mono hbw.size); have hB3 := isBuilder_below (isBuilder_below hB ((Below.refl wr.heap.size wr).alloc (Nat.le_refl _) (.cells #[.int .i64 l[k].kind, .string l[k].name, .slice ra l[k].refs.length rc, .slice na l[k].nums.length nc, .int .i64 l[k].by_, .bool l[k].always] 38))) hb3)
          | (go_at_call 44; refine (writeString_any w.heap.size w.heap.size _ _ _ hB3 (by have := HL1.out; have := HL2.out; omega) hbw3.size).mono ?_; rintro e w4 ⟨rfl, hB4, hb4⟩))
        have hs4 := hb4.size
        have hs3 := hbw3.size
        refine ⟨⟨k + 1, by omega, by go_num, .inr ?_, hbw3.trans hb4, ?_, ?_⟩, by simp [intOf]; omega⟩
        · rw [HCA.out, Lib.byteCells_append]
          have e : Lib.byteCells ((textD l[k]).data.toList ++ [10]) = Lib.strCells (textB l[k].kind l[k].name l[k].refs l[k].nums l[k].by_ l[k].always ++ (⟨#[10]⟩ : ByteArray)) := by
            rw [Lib.strCells_eq, ByteArray.data_append, Array.toList_append]; rfl
          rw [e]
          exact hB4
        · have := hb3.size
          simp at this
          omega
        · refine hide ?_
          rw [take_snoc l k hlt, List.all_append]
          simp only [List.all_cons, List.all_nil, Bool.and_true]
          rw [hall, hv]; rfl
    · have hkl : l.take k = l := List.take_of_length_le (by omega)
      have HF := hide (show formatL l = cat l by rw [← hkl]; unfold formatL; rw [hkl] at hall ⊢; simp only [show l.all okD = true from hall, if_true])
      have HK := hide hkl
      have HBL := hide hB
      clear hkl
      go_wp2_with (go_at_call 45; refine (Tryd.Builder_String_any w.heap.size w.heap.size (cat (l.take k)) wr HBL.out hbr.size).mono ?_; rintro e w3 ⟨rfl, hb3⟩)
      go_ret
      exact ⟨ret_congr (by rw [HF.out, HK.out]; rfl), hbr.trans hb3⟩
end Go.Proofs.YtanhkeeifnimgaaDoor
