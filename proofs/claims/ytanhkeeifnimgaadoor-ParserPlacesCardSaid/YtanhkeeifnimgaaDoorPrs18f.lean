/- The walk of package parser: classes. Conditions: lengths that fit memory. Package parser: the values of the parts, and the rules of the grammar. Conditions: lengths that fit memory. -/
import Derived.Test.YtanhkeeifnimgaaDoorPrs18d
import Derived.Test.YtanhkeeifnimgaaDoorPar18g

namespace Go.Proofs.YtanhkeeifnimgaaDoor
open Go Go.RowKit Go.Proofs

theorem bitE_run {w : World} {r : Nat} (k : ByteArray) (hg : w.heap[r]? = some (.map bitE 3)) : (Instr.lookup 119 (.map (some r)) (.string k) false).run Tryd.prog w = .ok (.int .i64 (bitOf k)) w := run_lookup3 k hg
theorem bit_le (k : ByteArray) : 0 ≤ bitOf k ∧ bitOf k ≤ 4 := by unfold bitOf; split; exact ⟨by decide, by decide⟩; split; exact ⟨by decide, by decide⟩; split; exact ⟨by decide, by decide⟩; exact ⟨by decide, by decide⟩
theorem take_text (s : PS) {k : Int} {tx : List ByteArray} (hne : tx ≠ []) : (s.take k tx).1.text = ⟨#[]⟩ ∧ (s.take k tx).2.e ≠ 0 ∨ hasS tx (s.take k tx).1.text = true := by
  unfold PS.take
  split
  · exact .inl ⟨rfl, fail_ne s (by decide)⟩
  · rename_i h
    simp only [not_or, not_and, Decidable.not_not] at h
    exact .inr (by simpa using h.2.2 hne)
theorem But.mono' {g g' B B' : Nat} {w w' : World} (h : But g B w w') (hg : B' ≤ g) (hB : B' ≤ B) : But g' B' w w' := ⟨h.os, h.tape, h.output, h.size, fun k hk _ => h.block k (Nat.lt_of_lt_of_le hk hB) (by omega)⟩
theorem del_step {y : World} {L : Nat} {cs : Array Value} {left : List ByteArray} (word : ByteArray) (hR : Row y L cs left) (hcs : cs.size = 3) (hL : L < y.heap.size) {l2 : List ByteArray} (h2 : Hid (l2 = left.filter fun x => decide (x ≠ word))) :
    Calls Tryd.prog 129 #[.slice (some ⟨L, 0, none⟩) left.length 3, .func (.func 130) #[] #[.pointer (some ⟨y.heap.size, 0, none⟩)]] (y.alloc (.cells #[.string word] 9)) fun e z =>
      e = .returned (.slice (some ⟨L, 0, none⟩) l2.length 3) ∧ (∃ cs', Row z L cs' l2 ∧ cs'.size = 3) ∧ But L (y.alloc (.cells #[.string word] 9)).heap.size (y.alloc (.cells #[.string word] 9)) z := by
  have hfl : (left.filter fun x => decide (x ≠ word)) = left.filter fun x => !decide (x = word) := List.filter_congr fun x _ => by simp
  rw [h2.out, hfl]
  refine deleteFunc_strs 130 _ (fun args w => by kernel_rfl) (fun x => decide (x = word)) L 3 left cs _ (by have := hR.2.1; omega) ⟨Blk.alloc hR.1 _, hR.2⟩ hcs fun x W hW => ?_
  have hl : y.heap.size < (y.alloc (.cells #[.string word] 9)).heap.size := by simp
  exact isWord_any x word y.heap.size W (Nat.lt_of_lt_of_le hl hW.size) ((hW.cell (p := ⟨y.heap.size, 0, none⟩) hl (by simp; omega)).trans (cell?_new y _ _ 0))
theorem del_short {left l2 : List ByteArray} {x : ByteArray} (h2 : l2 = left.filter fun y => decide (y ≠ x)) (h : hasS left x = true) : l2.length < left.length := by rw [h2]; exact hasS_filter_lt h
theorem del_le {left l2 : List ByteArray} {x : ByteArray} (h2 : l2 = left.filter fun y => decide (y ≠ x)) : l2.length ≤ left.length := by rw [h2]; exact List.length_filter_le _ _
theorem comma_same {s : PS} (h : s.comma.1 = false) : s.comma.2 = s := by
  unfold PS.comma at h ⊢
  split
  · rfl
  · rename_i hc; rw [if_neg hc] at h; cases h
theorem comma_ok {s : PS} (h : s.comma.1 = true) : s.e = 0 := by
  unfold PS.comma at h
  split at h
  · cases h
  · rename_i hc
    simp only [not_or, Decidable.not_not] at hc
    exact hc.1
set_option maxRecDepth 100000 in
set_option maxHeartbeats 8000000 in
theorem classes_st {bp B : Nat} {s : PS} (X : World) (h : PSt X bp B s) (hby : 0 ≤ s.d.by_ ∧ s.d.by_ ≤ 1000000) :
    Calls Tryd.prog 114 #[.pointer (some ⟨bp, 0, none⟩)] X (StepR bp B s.classes (.tuple #[]) X) := by
  have hmm := @run_makeMap Tryd.prog
  obtain ⟨rv, nv, x4, x5, hO, hI, _⟩ := h.rows
  have hlt := h.bp_lt
  have hrL : rv.ownBlock ≠ some X.heap.size := fun e => by have := hO.lt _ e; omega
  have hnL : nv.ownBlock ≠ some X.heap.size := fun e => by have := hI.lt _ e; omega
  have hW1 : Below X.heap.size X (X.alloc (.cells #[.string (⟨#[109, 97, 99, 104, 105, 110, 101]⟩ : ByteArray), .string (⟨#[114, 97, 99, 107]⟩ : ByteArray), .string (⟨#[102, 101, 101, 100]⟩ : ByteArray)] 9)) := (Below.refl _ _).alloc (Nat.le_refl _) _
  have hW2 : Below X.heap.size X ((X.alloc (.cells #[.string (⟨#[109, 97, 99, 104, 105, 110, 101]⟩ : ByteArray), .string (⟨#[114, 97, 99, 107]⟩ : ByteArray), .string (⟨#[102, 101, 101, 100]⟩ : ByteArray)] 9)).alloc (.map bitE 3)) := hW1.alloc hW1.size _
  have hR0 : Row ((X.alloc (.cells #[.string (⟨#[109, 97, 99, 104, 105, 110, 101]⟩ : ByteArray), .string (⟨#[114, 97, 99, 107]⟩ : ByteArray), .string (⟨#[102, 101, 101, 100]⟩ : ByteArray)] 9)).alloc (.map bitE 3)) X.heap.size #[.string (⟨#[109, 97, 99, 104, 105, 110, 101]⟩ : ByteArray), .string (⟨#[114, 97, 99, 107]⟩ : ByteArray), .string (⟨#[102, 101, 101, 100]⟩ : ByteArray)] clsL := ⟨Blk.alloc (Blk.new X 9 _) _, by simp [clsL], fun j hj => by
    match j, hj with
    | 0, _ => rfl
    | 1, _ => rfl
    | 2, _ => rfl⟩
  have hM0 : ((X.alloc (.cells #[.string (⟨#[109, 97, 99, 104, 105, 110, 101]⟩ : ByteArray), .string (⟨#[114, 97, 99, 107]⟩ : ByteArray), .string (⟨#[102, 101, 101, 100]⟩ : ByteArray)] 9)).alloc (.map bitE 3)).heap[X.heap.size + 1]? = some (.map bitE 3) := by
    simpa using heap_alloc_new (X.alloc (.cells #[.string (⟨#[109, 97, 99, 104, 105, 110, 101]⟩ : ByteArray), .string (⟨#[114, 97, 99, 107]⟩ : ByteArray), .string (⟨#[102, 101, 101, 100]⟩ : ByteArray)] 9)) (.map bitE 3)
  have hS0 := h.below hW2
  have c4 := (hW2.cell (p := ⟨bp, 4, none⟩) (by simp; omega)).trans x4
  have c5 := (hW2.cell (p := ⟨bp, 5, none⟩) (by simp; omega)).trans x5
  have HS := hide (show s.classes = PS.classesGo 5 clsL s from rfl)
  have H0 := hide (And.intro hR0 (And.intro hM0 (And.intro hS0 (And.intro c4 (And.intro c5 hW2)))))
  clear h x4 x5 hO hI hW1 hW2 hR0 hM0 hS0 c4 c5
  go_enter Tryd.func114, Tryd.ntmps114
  go_wp2_with (first
    | (refine wpList_insert_newS (es := #[]) (c := 0) (vv := .int .i64 1) rfl rfl _ _ _ _ rfl Tryd.underlying119 Tryd.underlying9 rfl rfl (by simp) rfl rfl rfl ?_)
    | (refine wpList_insert_newS (c := 1) (vv := .int .i64 2) rfl rfl _ _ _ _ rfl Tryd.underlying119 Tryd.underlying9 rfl rfl (by simp) rfl rfl rfl ?_)
    | (refine wpList_insert_newS (c := 2) (vv := .int .i64 4) rfl rfl _ _ _ _ rfl Tryd.underlying119 Tryd.underlying9 rfl rfl (by simp) rfl rfl rfl ?_
       show wpList _ _ _ _ _ ((X.alloc (.cells #[.string (⟨#[109, 97, 99, 104, 105, 110, 101]⟩ : ByteArray), .string (⟨#[114, 97, 99, 107]⟩ : ByteArray), .string (⟨#[102, 101, 101, 100]⟩ : ByteArray)] 9)).alloc (.map bitE 3))))
  go_loopw [2, 4] (fun vl vm wr => ∃ (st : PS), PSt wr bp B st ∧ But bp B X wr ∧ ((vm = .bool false ∧ Hid (s.classes = st)) ∨ (vm = .bool true ∧ ∃ (f : Nat) (left : List ByteArray) (cs : Array Value), vl = .slice (some ⟨X.heap.size, 0, none⟩) left.length 3 ∧ Row wr X.heap.size cs left ∧ cs.size = 3 ∧ left.length < f ∧ wr.heap[X.heap.size + 1]? = some (.map bitE 3) ∧ wr.cell? ⟨bp, 4, none⟩ = some rv ∧ wr.cell? ⟨bp, 5, none⟩ = some nv ∧ Hid (s.classes = PS.classesGo f left st) ∧ 0 ≤ st.d.by_ ∧ st.d.by_ + 4 * left.length ≤ 1000012))) (fun vl vm _ => 2 * lenV vl + boolN vm)
  case atStart =>
    obtain ⟨hR0, hM0, hS0, c4, c5, hW2⟩ := H0.out
    exact ⟨s, hS0, But.ofBelow (hW2.mono hlt.2), .inr ⟨rfl, 5, clsL, _, rfl, hR0, rfl, by simp [clsL], hM0, c4, c5, HS, hby.1, by simp [clsL]; omega⟩⟩
  case round =>
    clear H0 HS
    obtain ⟨st, hst, hB, hcase⟩ := hrel
    rcases hcase with ⟨rfl, HE⟩ | ⟨rfl, f, left, cs, rfl, hR, hcs, hf, hM, d4, d5, HG, hb0, hb1⟩
    · go_wp2_with fail
      go_end0
      rw [HE.out]
      exact ⟨rfl, hst, hB⟩
    · obtain ⟨f', rfl⟩ : ∃ f', f = f' + 1 := ⟨f - 1, by omega⟩
      have hgo := HG.out
      rw [PS.classesGo] at hgo
      clear HG
      by_cases hne : left = []
      · rw [if_pos hne] at hgo
        have HE := hide hgo
        have hl0 : (left.length : Int) = 0 := by rw [hne]; rfl
        clear hgo hne
        go_wp2_with (go_at_call 28; refine (fail_st 3 wr hst).mono ?_; rintro e4 x4 ⟨rfl, h4, hb4⟩)
        go_end0
        rw [HE.out]
        exact ⟨rfl, h4, hB.trans hb4⟩
      · rw [if_neg hne] at hgo
        simp only at hgo
        have hl1 : ((left.length : Int) == 0) = false := by
          have := List.length_pos_iff.2 hne
          simp; omega
        have HT := hide (take_rows 2 (some ⟨X.heap.size, 0, none⟩) 3 left wr hst d4 d5 (by decide) hR.strs (by have := hR.2.1; omega))
        have hd := take_d st 2 left
        have hty := take_text st hne (k := 2)
        generalize st.take 2 left = r at HT hd hgo hty
        have hfd := field_text r.1.kind r.1.text r.1.n r.1.pos
        have hLw := Blk.lt hR.1
        have hMw : X.heap.size + 1 < wr.heap.size := by
          rcases Nat.lt_or_ge (X.heap.size + 1) wr.heap.size with h | h
          · exact h
          · rw [Array.getElem?_eq_none h] at hM; cases hM
        have hXL : X.heap.size ≠ bp := by omega
        have hXM : X.heap.size + 1 ≠ bp := by omega
        have HRM := hide (And.intro hR hM)
        have hbt := bit_le r.1.text
        have hwr : IntKind.i64.wrap (st.d.by_ + bitOf r.1.text) = st.d.by_ + bitOf r.1.text := IntWalk.i64_in _ (by have := List.length_pos_iff.2 hne; omega)
        have HGO := hide hgo
        have HNE := hide hne
        obtain ⟨l2, hl2⟩ : ∃ l2, l2 = left.filter fun x => decide (x ≠ r.1.text) := ⟨_, rfl⟩
        have HL2 := hide hl2
        clear hl2 hR hM d4 d5 hgo hne
        go_wp2_with (first
          | (go_at_call 57; refine HT.out.mono ?_; rintro e2 y ⟨rfl, hy, hby2, y4, y5⟩; have hyw := hby2.size; have hLy := Nat.lt_of_lt_of_le hLw hyw; have hMy := Nat.lt_of_lt_of_le hMw hyw
             have hRy : Row y X.heap.size cs left := ⟨But.blk hby2 HRM.out.1.1 hLw hXL, HRM.out.1.2⟩
             have hMh := (hby2.block _ hMw hXM).trans HRM.out.2)
          | (go_at_call 129; refine (del_step r.1.text hRy hcs hLy HL2).mono ?_; rintro e3 z ⟨rfl, ⟨cs', hR', hcs'⟩, hbz⟩
             have hya := (PSt.alloc_ hy (.cells #[.string r.1.text] 9) (i := 0)).1
             have hyb := hy.cells.2.2.2.2.2.1
             have hz3 := PSt.butL hya ((World.cell?_alloc_lt _ _ _ hyb).trans y4) ((World.cell?_alloc_lt _ _ _ hyb).trans y5) (by omega) hrL hnL hbz
             have hzc := hz3.1.cells
             have z6 := hzc.2.2.2.1
             rw [hd] at z6
             have hbpz := hzc.2.2.2.2.2.1
             have f6 := hzc.2.2.2.2.2.2 6
             have hw0 : z.cell? ⟨y.heap.size, 0, none⟩ = some (.string r.1.text) := (hbz.cell (p := ⟨y.heap.size, 0, none⟩) (by simp) (by simp; omega)).trans (cell?_new y _ _ 0)
             have hzl := hbz.size
             have hMz := (hbz.block (X.heap.size + 1) (by simp; omega) (by omega)).trans ((Below.heap_alloc y _ _ hMy).trans hMh)
             have hlk := bitE_run (w := z.drew) r.1.text hMz
             clear hzc))
        go_region_with (fail)
        all_goals
          have hs9 : PSt (z.setCell ⟨bp, 6, none⟩ (.int .i64 (st.d.by_ + bitOf r.1.text))).drew bp B { r.2 with d := { r.2.d with by_ := r.2.d.by_ + bitOf r.1.text } } := by
            have h9 := PSt.drew (PSt.set_by hz3.1 (r.2.d.by_ + bitOf r.1.text))
            rw [show r.2.d.by_ = st.d.by_ from by rw [hd]] at h9 ⊢
            exact h9
          have k4 : (z.setCell ⟨bp, 6, none⟩ (.int .i64 (st.d.by_ + bitOf r.1.text))).drew.cell? ⟨bp, 4, none⟩ = some rv := (World.cell?_setCell_other _ _ _ _ (by simp)).trans hz3.2.1
          have k5 : (z.setCell ⟨bp, 6, none⟩ (.int .i64 (st.d.by_ + bitOf r.1.text))).drew.cell? ⟨bp, 5, none⟩ = some nv := (World.cell?_setCell_other _ _ _ _ (by simp)).trans hz3.2.2
          have hgo := HGO.out
          have HC := hide (comma_rows _ hs9 k4 k5)
          have hcd := comma_d ({ r.2 with d := { r.2.d with by_ := r.2.d.by_ + bitOf r.1.text } } : PS)
          have hcs2 := comma_same (s := ({ r.2 with d := { r.2.d with by_ := r.2.d.by_ + bitOf r.1.text } } : PS))
          have hco := comma_ok (s := ({ r.2 with d := { r.2.d with by_ := r.2.d.by_ + bitOf r.1.text } } : PS))
          have hby9 : ({ r.2 with d := { r.2.d with by_ := r.2.d.by_ + bitOf r.1.text } } : PS).d.by_ = st.d.by_ + bitOf r.1.text := by simp only [hd]
          have he9 : ({ r.2 with d := { r.2.d with by_ := r.2.d.by_ + bitOf r.1.text } } : PS).e = r.2.e := rfl
          rw [← HL2.out] at hgo
          clear hs9 k4 k5 HGO
          generalize ({ r.2 with d := { r.2.d with by_ := r.2.d.by_ + bitOf r.1.text } } : PS) = s2 at hgo HC hcd hcs2 hco hby9 he9
          generalize hcm : s2.comma.1 = cm at HC hgo hcs2 hco
          generalize s2.comma.2 = c2 at HC hgo hcs2 hcd
          have hgo := hide hgo
          go_wp2_with (go_at_call 128; refine HC.out.mono ?_; rintro e5 x5 ⟨⟨rfl, h5, hb5⟩, q4, q5, hb55⟩)
          go_roundw
          case rel =>
            have hBz : But bp B X z := hB.trans ((hby2.mono hst.bp_lt.2).trans ((But.ofBelow ((Below.refl B y).alloc hy.bp_lt.2 _)).trans (But.mono' hbz (by omega) (by simp; omega))))
            have hB9 : But bp B X (z.setCell ⟨bp, 6, none⟩ (.int .i64 (st.d.by_ + bitOf r.1.text))).drew := hBz.trans ((But.set_ _ _ _).trans (But.ofBelow (Below.refl _ _).drew))
            refine ⟨c2, h5, hB9.trans hb5, ?_⟩
            have hgo := hgo.out
            cases cm with
            | false =>
              rw [if_neg (by decide)] at hgo
              exact .inl ⟨rfl, hide (hgo.trans (hcs2 rfl).symm)⟩
            | true =>
              rw [if_pos rfl] at hgo
              have hshort := del_short HL2.out (hty.resolve_left fun h => h.2 (he9.symm.trans (hco rfl)))
              have e9 : c2.d.by_ = st.d.by_ + bitOf r.1.text := by rw [hcd]; exact hby9
              have hzs : (z.setCell ⟨bp, 6, none⟩ (.int .i64 (st.d.by_ + bitOf r.1.text))).drew.heap.size = z.heap.size := by simp [World.setCell]
              have hR9 : Row (z.setCell ⟨bp, 6, none⟩ (.int .i64 (st.d.by_ + bitOf r.1.text))).drew X.heap.size cs' l2 := ⟨Blk.drew (Blk.far hR'.1 (by simpa using hXL) _), hR'.2⟩
              have hM9 : (z.setCell ⟨bp, 6, none⟩ (.int .i64 (st.d.by_ + bitOf r.1.text))).drew.heap[X.heap.size + 1]? = some (.map bitE 3) := (Below.heap_setCell _ _ _ _ (by simpa using hXM)).trans hMz
              exact .inr ⟨rfl, f', l2, cs', rfl, ⟨But.blk hb55 hR9.1 (Blk.lt hR9.1) hXL, hR9.2⟩, hcs', by omega, (hb55.block _ (by rw [hzs]; simp at hzl; omega) hXM).trans hM9, q4, q5, hide hgo, by omega, by omega⟩
          case measure =>
            cases cm with
            | false =>
              have := del_le HL2.out
              simp [lenV, boolN]; omega
            | true =>
              have hshort := del_short HL2.out (hty.resolve_left fun h => h.2 (he9.symm.trans (hco rfl)))
              simp [lenV, boolN]; omega
end Go.Proofs.YtanhkeeifnimgaaDoor

namespace Go.Proofs.YtanhkeeifnimgaaDoor
open Go Go.RowKit Go.Proofs

/-- what a part asks of the state -/
def PartOk (s : PS) : Prop := s.e = 0 ∧ s.d.refs.length + s.left ≤ 1000000000 ∧ s.d.nums.length + s.left ≤ 1000000000 ∧ 0 ≤ s.d.by_ ∧ s.d.by_ ≤ 1000000
/-- a function value that reads a part for the parser in block bp, in all later worlds -/
def PV (w : World) (bp : Nat) (v : Value) (p : Part) : Prop :=
  ∃ (g : Nat) (fs lb : Array Value), v = .func (.func g) fs lb ∧ (∀ args W, (callFunc g args).run Tryd.prog W = .ok (.enter g args) W) ∧
    ∀ (B : Nat) (s : PS) (W : World), But bp w.heap.size w W → PSt W bp B s → PartOk s → Calls Tryd.prog g (fs ++ lb) W (StepR bp B (s.part p) (.tuple #[]) W)
theorem PV.but {w w' : World} {bp : Nat} {v : Value} {p : Part} (h : PV w bp v p) (hb : But bp w.heap.size w w') : PV w' bp v p := by
  obtain ⟨g, fs, lb, rfl, eg, hc⟩ := h
  exact ⟨g, fs, lb, rfl, eg, fun B s W hW => hc B s W (hb.trans (hW.mono hb.size))⟩
theorem PV.below {w w' : World} {bp : Nat} {v : Value} {p : Part} (h : PV w bp v p) (hb : Below w.heap.size w w') : PV w' bp v p := h.but (But.ofBelow hb)
theorem pv_name (w : World) (bp : Nat) : PV w bp (.func (.func 111) #[.pointer (some ⟨bp, 0, none⟩)] #[]) .name := ⟨_, _, _, rfl, fun args W => by kernel_rfl, fun B s W _ h _ => name_st W h⟩
theorem pv_ref (w : World) (bp : Nat) : PV w bp (.func (.func 112) #[.pointer (some ⟨bp, 0, none⟩)] #[]) .ref := ⟨_, _, _, rfl, fun args W => by kernel_rfl, fun B s W _ h k => ref_st W h (by have := k.2.1; omega)⟩
theorem pv_number (w : World) (bp : Nat) : PV w bp (.func (.func 110) #[.pointer (some ⟨bp, 0, none⟩)] #[]) .number := ⟨_, _, _, rfl, fun args W => by kernel_rfl, fun B s W _ h k => number_st W h (by have := k.2.2.1; omega)⟩
theorem pv_list (w : World) (bp : Nat) : PV w bp (.func (.func 113) #[.pointer (some ⟨bp, 0, none⟩)] #[]) .list := ⟨_, _, _, rfl, fun args W => by kernel_rfl, fun B s W _ h k => list_st W h k.2.1 k.1⟩
theorem pv_classes (w : World) (bp : Nat) : PV w bp (.func (.func 114) #[.pointer (some ⟨bp, 0, none⟩)] #[]) .classes := ⟨_, _, _, rfl, fun args W => by kernel_rfl, fun B s W _ h k => classes_st W h k.2.2.2⟩
theorem pv_domain (w : World) (bp : Nat) : PV w bp (.func (.func 116) #[.pointer (some ⟨bp, 0, none⟩)] #[]) .domain := ⟨_, _, _, rfl, fun args W => by kernel_rfl, fun B s W _ h _ => domain_st W h⟩
theorem pv_always (w : World) (bp : Nat) : PV w bp (.func (.func 115) #[.pointer (some ⟨bp, 0, none⟩)] #[]) .always := ⟨_, _, _, rfl, fun args W => by kernel_rfl, fun B s W _ h _ => always_st W h⟩
theorem pv_word (w : World) (bp b1 b2 : Nat) (x : ByteArray) (h1 : b1 < w.heap.size) (h2 : b2 < w.heap.size) (n1 : b1 ≠ bp) (n2 : b2 ≠ bp) (c1 : w.cell? ⟨b1, 0, none⟩ = some (.pointer (some ⟨bp, 0, none⟩))) (c2 : w.cell? ⟨b2, 0, none⟩ = some (.string x)) :
    PV w bp (.func (.func 127) #[] #[.pointer (some ⟨b1, 0, none⟩), .pointer (some ⟨b2, 0, none⟩)]) (.word x) :=
  ⟨_, _, _, rfl, fun args W => by kernel_rfl, fun B s W hW h _ => word_st x W h ((hW.cell (p := ⟨b1, 0, none⟩) h1 n1).trans c1) ((hW.cell (p := ⟨b2, 0, none⟩) h2 n2).trans c2)⟩
set_option maxHeartbeats 1000000 in
theorem word_any2 (bp : Nat) (x : ByteArray) (X : World) (hbp : bp < X.heap.size) :
    Calls Tryd.prog 109 #[.pointer (some ⟨bp, 0, none⟩), .string x] X fun e z =>
      (∃ b1 b2, e = .returned (.func (.func 127) #[] #[.pointer (some ⟨b1, 0, none⟩), .pointer (some ⟨b2, 0, none⟩)]) ∧ PV z bp (.func (.func 127) #[] #[.pointer (some ⟨b1, 0, none⟩), .pointer (some ⟨b2, 0, none⟩)]) (.word x)) ∧ Below X.heap.size X z := by
  have h1 : ((X.alloc (.cells #[.pointer (some ⟨bp, 0, none⟩)] 47)).alloc (.cells #[.string x] 9)).cell? ⟨X.heap.size, 0, none⟩ = some (.pointer (some ⟨bp, 0, none⟩)) := (World.cell?_alloc_lt _ _ _ (by simp)).trans (cell?_new _ _ _ _)
  have h2 : ((X.alloc (.cells #[.pointer (some ⟨bp, 0, none⟩)] 47)).alloc (.cells #[.string x] 9)).cell? ⟨X.heap.size + 1, 0, none⟩ = some (.string x) := by
    have := cell?_new (X.alloc (.cells #[.pointer (some ⟨bp, 0, none⟩)] 47)) #[.string x] 9 0
    simp at this ⊢
  have HP := hide (pv_word _ bp X.heap.size (X.heap.size + 1) x (by simp; omega) (by simp) (by omega) (by omega) h1 h2)
  clear h1 h2
  go_enter Tryd.func109, Tryd.ntmps109
  go_wp2_with fail
  go_ret
  exact ⟨⟨_, _, rfl, HP.out⟩, ((Below.refl _ _).alloc (Nat.le_refl _) _).alloc (by simp) _⟩

def PVs (w : World) (bp : Nat) : List Value → List Part → Prop
  | [], [] => True
  | v :: vs, p :: ps => PV w bp v p ∧ PVs w bp vs ps
  | _, _ => False
theorem PVs.but {w w' : World} {bp : Nat} : ∀ {vs : List Value} {ps : List Part}, PVs w bp vs ps → But bp w.heap.size w w' → PVs w' bp vs ps
  | [], [], _, _ => trivial
  | _ :: _, _ :: _, h, hb => ⟨h.1.but hb, PVs.but h.2 hb⟩
  | [], _ :: _, h, _ => h.elim
  | _ :: _, [], h, _ => h.elim
theorem PVs.app {w : World} {bp : Nat} : ∀ {vs vs2 : List Value} {ps ps2 : List Part}, PVs w bp vs ps → PVs w bp vs2 ps2 → PVs w bp (vs ++ vs2) (ps ++ ps2)
  | [], _, [], _, _, k => k
  | _ :: _, _, _ :: _, _, h, k => ⟨h.1, PVs.app h.2 k⟩
  | [], _, _ :: _, _, h, _ => h.elim
  | _ :: _, _, [], _, h, _ => h.elim
theorem PVs.at_ {w : World} {bp : Nat} : ∀ {vs : List Value} {ps : List Part}, PVs w bp vs ps → ∀ (k : Nat) (hk : k < ps.length), ∃ v, vs[k]? = some v ∧ PV w bp v ps[k]
  | v :: vs, p :: ps, h, 0, _ => ⟨v, rfl, h.1⟩
  | v :: vs, p :: ps, h, k + 1, hk => PVs.at_ h.2 k (by simpa using hk)
  | [], _ :: _, h, _, _ => h.elim
  | [], [], _, _, hk => absurd hk (by simp)
  | _ :: _, [], h, _, _ => h.elim
/-- the value of a slice of parts -/
def RowV (w : World) (bp : Nat) (V : Value) (ps : List Part) : Prop := ∃ A c vs, V = .slice A ps.length c ∧ Reads w w.heap.size 1 A ps.length vs ∧ Off bp A ∧ PVs w bp vs ps
theorem RowV.but {w w' : World} {bp : Nat} {V : Value} {ps : List Part} (h : RowV w bp V ps) (hb : But bp w.heap.size w w') : RowV w' bp V ps := by
  obtain ⟨A, c, vs, rfl, h1, h2, h3⟩ := h
  exact ⟨A, c, vs, rfl, (Reads.but h1 h2 hb).more hb.size, h2, h3.but hb⟩
theorem RowV.new {w : World} {bp : Nat} {vs : Array Value} {ps : List Part} (T : TypeId) {n : Nat} (hn : n = ps.length) (hl : vs.size = n) (hbp : bp < w.heap.size) (h : PVs w bp vs.toList ps) : RowV (w.alloc (.cells vs T)) bp (.slice (some ⟨w.heap.size, 0, none⟩) n n) ps := by
  subst hn
  refine ⟨_, _, vs.toList, rfl, (Reads.newRow w vs T ps.length 1 (by simpa using hl)).more (by simp), fun ad e => ?_, h.but (But.ofBelow ((Below.refl _ _).alloc (Nat.le_refl _) _))⟩
  injection e with e
  subst e
  simp; omega
def ruleCells : List (ByteArray × Int × List Part) → List Value → List Value
  | r :: rs, V :: Vs => .string r.1 :: .int .i64 r.2.1 :: V :: ruleCells rs Vs
  | _, _ => []
def RowsV (w : World) (bp : Nat) : List (ByteArray × Int × List Part) → List Value → Prop
  | [], [] => True
  | r :: rs, V :: Vs => RowV w bp V r.2.2 ∧ RowsV w bp rs Vs
  | _, _ => False
theorem RowsV.but {w w' : World} {bp : Nat} : ∀ {rs : List (ByteArray × Int × List Part)} {Vs : List Value}, RowsV w bp rs Vs → But bp w.heap.size w w' → RowsV w' bp rs Vs
  | [], [], _, _ => trivial
  | _ :: _, _ :: _, h, hb => ⟨h.1.but hb, RowsV.but h.2 hb⟩
  | [], _ :: _, h, _ => h.elim
  | _ :: _, [], h, _ => h.elim
/-- the rules, as the call rules() has laid them -/
def RulesV (w : World) (bp : Nat) (A : Option Addr) : Prop := ∃ Vs, Reads w w.heap.size 3 A rulesT.length (ruleCells rulesT Vs) ∧ Off bp A ∧ RowsV w bp rulesT Vs
theorem RulesV.but {w w' : World} {bp : Nat} {A : Option Addr} (h : RulesV w bp A) (hb : But bp w.heap.size w w') : RulesV w' bp A := by
  obtain ⟨Vs, h1, h2, h3⟩ := h
  exact ⟨Vs, (Reads.but h1 h2 hb).more hb.size, h2, h3.but hb⟩
theorem rule_at : ∀ {rs : List (ByteArray × Int × List Part)} {Vs : List Value} {w : World} {bp : Nat}, RowsV w bp rs Vs → ∀ (k : Nat) (hk : k < rs.length), ∃ V, RowV w bp V rs[k].2.2 ∧ (ruleCells rs Vs)[k * 3]? = some (.string rs[k].1) ∧ (ruleCells rs Vs)[k * 3 + 1]? = some (.int .i64 rs[k].2.1) ∧ (ruleCells rs Vs)[k * 3 + 2]? = some V
  | r :: rs, V :: Vs, _, _, h, 0, _ => ⟨V, h.1, rfl, rfl, rfl⟩
  | r :: rs, V :: Vs, _, _, h, k + 1, hk => by
    obtain ⟨V', h1, h2, h3, h4⟩ := rule_at h.2 k (by simpa using hk)
    have e1 : (k + 1) * 3 = k * 3 + 1 + 1 + 1 := by omega
    have e2 : (k + 1) * 3 + 1 = k * 3 + 1 + 1 + 1 + 1 := by omega
    have e3 : (k + 1) * 3 + 2 = k * 3 + 2 + 1 + 1 + 1 := by omega
    refine ⟨V', by simpa using h1, ?_, ?_, ?_⟩
    · rw [e1, ruleCells, List.getElem?_cons_succ, List.getElem?_cons_succ, List.getElem?_cons_succ]; simpa using h2
    · rw [e2, ruleCells, List.getElem?_cons_succ, List.getElem?_cons_succ, List.getElem?_cons_succ]; simpa using h3
    · rw [e3, ruleCells, List.getElem?_cons_succ, List.getElem?_cons_succ, List.getElem?_cons_succ]; simpa using h4
  | [], _, _, _, _, _, hk => absurd hk (by simp)
  | _ :: _, [], _, _, h, _, _ => h.elim
/-- the cells of rule number k -/
theorem RulesV.at_ {w : World} {bp : Nat} {A : Option Addr} (h : RulesV w bp A) {k : Nat} (hk : k < rulesT.length) :
    ∃ b off V, A = some ⟨b, off, none⟩ ∧ b < w.heap.size ∧ b ≠ bp ∧ RowV w bp V rulesT[k].2.2 ∧ w.cell? ⟨b, off + k * 3, none⟩ = some (.string rulesT[k].1) ∧ w.cell? ⟨b, off + k * 3 + 1, none⟩ = some (.int .i64 rulesT[k].2.1) ∧ w.cell? ⟨b, off + k * 3 + 2, none⟩ = some V := by
  obtain ⟨Vs, h1, h2, h3⟩ := h
  obtain ⟨V, k1, k2, k3, k4⟩ := rule_at h3 k hk
  obtain ⟨b, off, e, hb, hc⟩ := Reads.form h1 (by have := List.getElem?_eq_some_iff.1 k2; obtain ⟨hl, _⟩ := this; omega)
  have key : ∀ i u, (ruleCells rulesT Vs)[k * 3 + i]? = some u → w.cell? ⟨b, off + k * 3 + i, none⟩ = some u := fun i u hu => by
    have := hc (k * 3 + i) u hu
    rwa [← Nat.add_assoc] at this
  exact ⟨b, off, V, e, hb, h2 _ e, k1, key 0 _ k2, key 1 _ k3, key 2 _ k4⟩
end Go.Proofs.YtanhkeeifnimgaaDoor
