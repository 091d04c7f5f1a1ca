/- A part of the claim: see its last text. -/
import Derived.Test.YtcfogipaadhbeaaGreatDoorULaw17aZ
import Derived.Test.YtcfogipaadhbeaaGreatDoorUK08
import Derived.Test.YtcfogipaadhbeaaGreatDoorUK16
import Derived.Deep.DeepCutAuto

set_option maxRecDepth 100000
set_option maxHeartbeats 16000000
namespace Go.Proofs.YtcfogipaadhbeaaGreatDoor
open Go Go.RowKit Go.Proofs
theorem empty_iff (s : ByteArray) : s.toList.isEmpty = decide (s = ⟨#[]⟩) := by
 rw [Bool.eq_iff_iff, isEmpty_iff, decide_eq_true_eq]
 constructor
 · intro h
   obtain ⟨x⟩ := s
   have : x.size = 0 := h
   have : x = #[] := Array.eq_empty_of_size_eq_zero this
   rw [this]
 · rintro rfl; rfl
theorem validB_D (d : Decl) : validB d.kind d.name d.refs d.nums d.by_ d.always = validD d := by
 cases hf : form? d.kind with
 | none =>
   rw [validB_none hf]
   unfold validD shaped
   rw [hf]
   rfl
 | some f =>
   unfold validB validD shaped
   rw [shapeB_form hf, hf, empty_iff]
   simp only [fits, Int.ofNat_le, Int.natCast_inj]
   congr 4
   by_cases h : d.name = ⟨#[]⟩ <;> simp [h]
theorem formVal_some {B : Nat} {k : Int} {f : Form} (h : form? k = some f) : formVal B k = .agg #[.string f.word, .bool f.name, .int .i64 f.least, .int .i64 f.most, .int .i64 f.numbers, .func (.func (byF k)) #[] #[], .bool f.always, .func (.func (textF k)) #[] (capF B k)] := by
 unfold formVal; rw [h]
theorem formVal_none {B : Nat} {k : Int} (h : form? k = none) : formVal B k = .agg #[.string ⟨#[]⟩, .bool false, .int .i64 0, .int .i64 0, .int .i64 0, .nilFunc, .bool false, .nilFunc] := by
 unfold formVal; rw [h]
theorem FormsAt.alloc {w : World} {r B : Nat} (h : FormsAt w r B) (o : Obj) : FormsAt (w.alloc o) r B := by
 obtain ⟨h1, h2⟩ := h
 refine ⟨?_, ?_⟩
 · have hlt : r < w.heap.size := (Array.getElem?_eq_some_iff.1 h1).1
   rw [← h1]; exact Below.heap_alloc w o r hlt
 · rw [World.cell?_alloc_lt _ _ _ (World.block_lt_of_cell? w _ h2)]; exact h2
theorem lookup_some {w : World} {r B : Nat} (h : FormsAt w r B) {k : Int} {f : Form} (hf : form? k = some f) :
    (Instr.lookup 129 (.map (some r)) (.int .i64 k) true).run Tryz.prog w = .ok (.tuple #[.agg #[.string f.word, .bool f.name, .int .i64 f.least, .int .i64 f.most, .int .i64 f.numbers, .func (.func (byF k)) #[] #[], .bool f.always, .func (.func (textF k)) #[] (capF B k)], .bool true]) w := by
 rw [forms_lookup h k, formVal_some hf, hf]; rfl
theorem lookup_none {w : World} {r B : Nat} (h : FormsAt w r B) {k : Int} (hf : form? k = none) :
    (Instr.lookup 129 (.map (some r)) (.int .i64 k) true).run Tryz.prog w = .ok (.tuple #[.agg #[.string ⟨#[]⟩, .bool false, .int .i64 0, .int .i64 0, .int .i64 0, .nilFunc, .bool false, .nilFunc], .bool false]) w := by
 rw [forms_lookup h k, formVal_none hf, hf]; rfl
theorem notName_any (s : ByteArray) (w : World) (ha : Asc w) (hs : s.size ≤ 9223372036854775807) :
    Calls Tryz.prog 99 #[.string s] w fun e w' => e = .returned (.bool (!isName s)) ∧ Below w.heap.size w w' := by
 go_enter Tryz.func99, Tryz.ntmps99
 go_wp2_with (go_at_call 71; refine (isName_prog s _ ha hs).mono ?_; rintro e w1 ⟨rfl, hb⟩)
 go_ret
 exact ⟨rfl, hb⟩
theorem oddNum_any (a : Int) (w : World) : Calls Tryz.prog 97 #[.int .i64 a] w fun e w' => e = .returned (.bool (!numOk a)) ∧ Below w.heap.size w w' := by
 have HO := hide (show (!numOk a) = (decide (a < 0) || decide (1048576 < a)) by simp [numOk]; grind)
 by_cases h : a < 0
 · go_enter Tryz.func97, Tryz.ntmps97
   go_wp2
   go_ret
   exact ⟨ret_congr (by rw [HO.out]; simp [h]), Below.refl _ _⟩
 · go_enter Tryz.func97, Tryz.ntmps97
   go_wp2
   go_ret
   exact ⟨ret_congr (by rw [HO.out]; simp; omega), Below.refl _ _⟩
theorem notName_pred {refs : List ByteArray} {w : World} (ha : Asc w) (hf : Fit refs) : PredS 99 #[] refs (fun s => !isName s) w :=
 fun _ hk W hb => notName_any _ W (ha.below (Nat.le_refl _) hb) (hf.at_ hk)
theorem oddNum_pred {nums : List Int} {w : World} : PredI 97 #[] nums (fun n => !numOk n) w :=
 fun _ _ W _ => oddNum_any _ W
theorem any_not {α : Type} (l : List α) (p : α → Bool) : l.any (fun x => !p x) = !l.all p := List.not_all_eq_any_not.symm
theorem valid_prog (k : Int) (nm : ByteArray) (ra : Option Addr) (refs : List ByteArray) (rc : Nat) (na : Option Addr) (nums : List Int) (nc : Nat) (bY : Int) (al : Bool) (w : World) (ha : Asc w)
    (hs : nm.size ≤ 9223372036854775807) (hf : Fit refs) (hl1 : refs.length ≤ 9223372036854775807) (hl2 : nums.length ≤ 9223372036854775807) (hr : Strs w w.heap.size ra refs) (hn : Ints w w.heap.size na nums) :
    Calls Tryz.prog 49 #[.agg #[.int .i64 k, .string nm, .slice ra refs.length rc, .slice na nums.length nc, .int .i64 bY, .bool al]] w
     fun e w' => e = .returned (.bool (validB k nm refs nums bY al)) ∧ Below w.heap.size w w' := by
 cases hfm : form? k with
 | none =>
   have HV := hide (validB_none hfm nm refs nums bY al)
   go_enter Tryz.func49, Tryz.ntmps49
   go_wp2_with fail
   go_cut [3, 4] (fun _ ok wx => ok = .bool false ∧ Below w.heap.size w wx)
   case first =>
    go_region_held3 (fun W => W.cell? ⟨w.heap.size, 0, none⟩ = some (.int .i64 k) ∧ W.cell? ⟨w.heap.size, 1, none⟩ = some (.string nm) ∧ W.cell? ⟨w.heap.size, 2, none⟩ = some (.slice ra refs.length rc) ∧ W.cell? ⟨w.heap.size, 3, none⟩ = some (.slice na nums.length nc) ∧ W.cell? ⟨w.heap.size, 4, none⟩ = some (.int .i64 bY) ∧ W.cell? ⟨w.heap.size, 5, none⟩ = some (.bool al)) (first | go_keep | (refine ⟨?_, ?_, ?_, ?_, ?_, ?_⟩ <;> (first | (rw [hc1 _ _ (by simp <;> omega)]; exact cell?_new _ _ _ _) | (rw [hc1 _ _ (by simp <;> omega)]; exact (World.cell?_alloc_lt _ _ _ (by simp <;> omega)).trans (cell?_new _ _ _ _))))) ((go_at_call 96; refine (forms_any _).mono ?_; rintro e w1 ⟨rfl, hF, hb⟩; (try simp at hF); have hlk := lookup_none hF hfm; have hlk2 := (fun o => lookup_none (hF.alloc o) hfm); clear hF; obtain ⟨hc1, _⟩ := bcell hb))
    all_goals
     go_wp2_with fail
     go_meet
     refine ⟨rfl, ?_⟩
     have hb0 : Below w.heap.size w w1 := by
      refine Below.trans ?_ (hb.mono ?_)
      · repeat (first | (with_reducible exact Below.refl _ _) | (with_reducible refine Below.drew ?_) | (with_reducible refine Below.alloc ?_ ?_ _))
        all_goals (simp <;> omega)
      · simp <;> omega
     clear hb hc1 hlk hlk2
     repeat (first | (with_reducible exact hb0) | (with_reducible refine Below.setCell ?_ ?_ _) | (with_reducible refine Below.alloc ?_ ?_ _))
     all_goals (first | exact hb0.size | (simp <;> omega))
   case rest =>
    obtain ⟨rfl, hbw⟩ := hcut
    go_wp2_with fail
    go_ret
    exact ⟨ret_congr (by rw [HV.out]; rfl), hbw⟩
 | some f =>
   have HV := hide (validB_form hfm nm refs nums bY al)
   have HBY := hide (by_any hfm)
   go_enter Tryz.func49, Tryz.ntmps49
   go_wp2_with fail
   go_cut [3, 4] (fun v ok wx => ∃ F tv, v = .pointer (some ⟨F, 0, none⟩) ∧ ok = .bool true ∧ Below w.heap.size w wx ∧ w.heap.size < F ∧ F < wx.heap.size ∧ Blk wx w.heap.size 43 #[.int .i64 k, .string nm, .slice ra refs.length rc, .slice na nums.length nc, .int .i64 bY, .bool al] ∧
    Blk wx F 127 #[.string f.word, .bool f.name, .int .i64 f.least, .int .i64 f.most, .int .i64 f.numbers, .func (.func (byF k)) #[] #[], .bool f.always, tv])
   case first =>
    go_region_held3 (fun W => W.cell? ⟨w.heap.size, 0, none⟩ = some (.int .i64 k) ∧ W.cell? ⟨w.heap.size, 1, none⟩ = some (.string nm) ∧ W.cell? ⟨w.heap.size, 2, none⟩ = some (.slice ra refs.length rc) ∧ W.cell? ⟨w.heap.size, 3, none⟩ = some (.slice na nums.length nc) ∧ W.cell? ⟨w.heap.size, 4, none⟩ = some (.int .i64 bY) ∧ W.cell? ⟨w.heap.size, 5, none⟩ = some (.bool al)) (first | go_keep | (refine ⟨?_, ?_, ?_, ?_, ?_, ?_⟩ <;> (first | (rw [hc1 _ _ (by simp <;> omega)]; exact cell?_new _ _ _ _) | (rw [hc1 _ _ (by simp <;> omega)]; exact (World.cell?_alloc_lt _ _ _ (by simp <;> omega)).trans (cell?_new _ _ _ _))))) ((go_at_call 96; refine (forms_any _).mono ?_; rintro e w1 ⟨rfl, hF, hb⟩; (try simp at hF); have hlk := lookup_some hF hfm; have hlk2 := (fun o => lookup_some (hF.alloc o) hfm); clear hF; obtain ⟨hc1, _⟩ := bcell hb))
    all_goals
     go_wp2_with fail
     go_meet
     have hb0 : Below w.heap.size w w1 := by
      refine Below.trans ?_ (hb.mono ?_)
      · repeat (first | (with_reducible exact Below.refl _ _) | (with_reducible refine Below.drew ?_) | (with_reducible refine Below.alloc ?_ ?_ _))
        all_goals (simp <;> omega)
      · simp <;> omega
     have hD : Blk w1 w.heap.size 43 #[.int .i64 k, .string nm, .slice ra refs.length rc, .slice na nums.length nc, .int .i64 bY, .bool al] := by
      refine Blk.below ?_ hb ?_
      · repeat (first | (with_reducible exact Blk.new _ _ _) | (with_reducible refine Blk.drew ?_) | (with_reducible refine Blk.alloc ?_ _))
      · simp <;> omega
     have hsz := hb.size
     simp at hsz
     first
      | (have hG : Blk w1 (w.heap.size + 1) 127 #[.string ⟨#[]⟩, .bool false, .int .i64 0, .int .i64 0, .int .i64 0, .nilFunc, .bool false, .nilFunc] := by
           refine Blk.below ?_ hb ?_
           · rw [show w.heap.size + 1 = (w.alloc (.cells #[.int .i64 k, .string nm, .slice ra refs.length rc, .slice na nums.length nc, .int .i64 bY, .bool al] 43)).heap.size by simp]
             repeat (first | (with_reducible exact Blk.new _ _ _) | (with_reducible refine Blk.drew ?_))
           · simp <;> omega
         clear hb hc1 hlk hlk2
         refine ⟨w.heap.size + 1, .func (.func (textF k)) #[] (capF (w.heap.size + 1 + 1) k), rfl, rfl, ?_, Nat.lt_succ_self _, ?_, ?_, ?_⟩
         rotate_left
         · simp <;> omega
         rotate_right
         · repeat (first | (with_reducible exact hb0) | (with_reducible refine Below.setCell ?_ ?_ _))
           all_goals (simp <;> omega)
         · repeat (first | (with_reducible exact hD) | (with_reducible refine Blk.far ?_ ?_ _))
           all_goals (simp <;> omega)
         · have := ((((((((hG.set_ 0 (.string f.word)).set_ 1 (.bool f.name)).set_ 2 (.int .i64 f.least)).set_ 3 (.int .i64 f.most)).set_ 4 (.int .i64 f.numbers)).set_ 5 (.func (.func (byF k)) #[] #[])).set_ 6 (.bool f.always)).set_ 7 (.func (.func (textF k)) #[] (capF (w.heap.size + 1 + 1) k)))
           simpa using this)
      | (clear hb hc1 hlk hlk2
         refine ⟨w1.heap.size, .func (.func (textF k)) #[] (capF (w.heap.size + 1) k), rfl, rfl, ?_, hsz, ?_, ?_, ?_⟩
         rotate_left
         · simp
         rotate_right
         · exact hb0.alloc hb0.size _
         · exact hD.alloc _
         · exact Blk.new _ _ _)
   case rest =>
    obtain ⟨F, tv, rfl, rfl, hbw, hF1, hF2, hD, hG⟩ := hcut
    have d1 := hD.cell 1
    have d2 := hD.cell 2
    have d3 := hD.cell 3
    have d4 := hD.cell 4
    have f2 := hG.cell 2
    have f3 := hG.cell 3
    have f4 := hG.cell 4
    have f5 := hG.cell 5
    simp at d1 d2 d3 d4 f2 f3 f4 f5
    have heg := HBY.out.1
    have HBC := hide HBY.out.2
    have HA := hide (any_not refs isName)
    have HB := hide (any_not nums numOk)
    have ec := isEmpty_iff nm
    clear ec
    cases hfn : f.name
    all_goals
     have HFN := hide hfn
     go_wp2_with (first
      | ((with_reducible refine Calls.mono (HBC.out _ _) ?_); rintro e w2 ⟨rfl, hb2⟩; have hb02 := hbw.trans (hb2.mono (by omega)); have hD2 := hD.below hb2 (by omega); have hG2 := hG.below hb2 (by omega); have d15 := hD2.cell 5; have d11 := hD2.cell 1; have d12 := hD2.cell 2; have d13 := hD2.cell 3; have f11 := hG2.cell 1; have f16 := hG2.cell 6; simp at d15 d11 d12 d13 f11 f16)
      | (go_at_call 71; refine (isName_prog nm _ (Asc.below ha (Nat.le_refl _) hb02) hs).mono ?_; rintro e w3 ⟨rfl, hb3⟩; have hb03 := hb02.trans (hb3.mono (by have := hb2.size; omega)); have hD3 := hD2.below hb3 (by have := hb2.size; omega); have d22 := hD3.cell 2; have d23 := hD3.cell 3; have f21 := (hG2.below hb3 (by have := hb2.size; omega)).cell 1; simp at d22 d23 f21)
      | (go_at_call 98; first
          | (refine (containsFunc_strs 99 #[] (fun _ _ => by kernel_rfl) (fun s => !isName s) ra rc refs w3 hl1 ((hr.below hb03).more hb03.size) (notName_pred (Asc.below ha (Nat.le_refl _) hb03) hf)).mono ?_; rintro e w4 ⟨rfl, hb4⟩; have hb04 := hb03.trans (hb4.mono hb03.size); have d33 := (hD3.below hb4 (by have := hb2.size; have := hb3.size; omega)).cell 3; simp at d33)
          | (refine (containsFunc_strs 99 #[] (fun _ _ => by kernel_rfl) (fun s => !isName s) ra rc refs w2 hl1 ((hr.below hb02).more hb02.size) (notName_pred (Asc.below ha (Nat.le_refl _) hb02) hf)).mono ?_; rintro e w4 ⟨rfl, hb4⟩; have hb04 := hb02.trans (hb4.mono hb02.size); have d33 := (hD2.below hb4 (by have := hb2.size; omega)).cell 3; simp at d33))
      | (go_at_call 100; refine (containsFunc_ints 97 #[] (fun _ _ => by kernel_rfl) (fun n => !numOk n) na nc nums w4 hl2 ((hn.below hb04).more hb04.size) oddNum_pred).mono ?_; rintro e w5 ⟨rfl, hb5⟩; have hb05 := hb04.trans (hb5.mono hb04.size)))
    all_goals
     go_ret
     refine ⟨ret_congr (congrArg Value.bool ?_), ?_⟩
     · rw [HV.out]
       have hA := HA.out
       have hB := HB.out
       have hN := HFN
       unfold Hid at hN
       simp only [hN]
       grind
     · first | exact hb05 | exact hb04 | exact hb03 | exact hb02 | exact hbw
end Go.Proofs.YtcfogipaadhbeaaGreatDoor
