/- A part of the claim: see its last text. -/
import Derived.Test.YtlnjaemdelnceaaGreatDoorUK20
import Derived.Lib.ItoaLen
import Derived.Test.YtlnjaemdelnceaaGreatDoorUK03
import Derived.Deep.MidRow

set_option maxRecDepth 100000
set_option maxHeartbeats 16000000
namespace Go.Proofs.YtlnjaemdelnceaaGreatDoor
open Go Go.RowKit Go.Proofs
def Small (l : List ByteArray) : Prop := l.length ≤ 40 ∧ ∀ x ∈ l, x.size ≤ 1000
theorem itoaS_small {n : Int} (h : numOk n = true) : (itoaS n).size ≤ 1000 := by
 simp only [numOk, Bool.and_eq_true, decide_eq_true_eq] at h
 have := Lib.itoa_length_le n (by omega) (by omega)
 show (Lib.itoa n).toArray.size ≤ 1000
 simp; omega
theorem joinS_small {l : List ByteArray} (h : l.all isName = true) (hl : l.length ≤ 17) : (joinS l (⟨#[44, 32]⟩ : ByteArray)).size ≤ 1000 := by
 have := join_len [44, 32] (l.map (·.data.toList)) 31 (by
  intro x hx
  obtain ⟨s, hs, rfl⟩ := List.mem_map.1 hx
  have := isName_size (List.all_eq_true.1 h s hs)
  simpa using this)
 have h2 : (l.map (·.data.toList)).length * (31 + 2) ≤ 17 * 33 := Nat.mul_le_mul (by simpa using hl) (by omega)
 show (Lib.join (l.map (·.data.toList)) [44, 32]).toArray.size ≤ 1000
 simp at this h2 ⊢; omega
theorem name_small {s : ByteArray} (h : isName s = true) : s.size ≤ 1000 := by have := isName_size h; omega
theorem ref_small {refs : List ByteArray} (h : refs.all isName = true) (i : Nat) : (refs.getD i ByteArray.empty).size ≤ 1000 := by
 by_cases hi : i < refs.length
 · have : refs.getD i ByteArray.empty = refs[i] := by simp [hi]
   rw [this]; exact name_small (List.all_eq_true.1 h _ (List.getElem_mem _))
 · have : refs.getD i ByteArray.empty = ByteArray.empty := by simp [List.getElem?_eq_none (Nat.le_of_not_lt hi)]
   rw [this]; decide
theorem num_small {nums : List Int} (h : nums.all numOk = true) (i : Nat) : (itoaS (nums.getD i 0)).size ≤ 1000 := by
 by_cases hi : i < nums.length
 · exact itoaS_small (numAt h hi)
 · have : nums.getD i 0 = 0 := by simp [List.getElem?_eq_none (Nat.le_of_not_lt hi)]
   rw [this]; exact itoaS_small (by decide)
theorem plain_small {refs : List ByteArray} {nums : List Int} (h : refs.all isName = true) (h2 : nums.all numOk = true) : ∀ x ∈ refs ++ nums.map itoaS, x.size ≤ 1000 := by
 intro x hx
 rcases List.mem_append.1 hx with hx | hx
 · exact name_small (List.all_eq_true.1 h _ hx)
 · obtain ⟨n, hn, rfl⟩ := List.mem_map.1 hx
   exact itoaS_small (List.all_eq_true.1 h2 _ hn)
theorem words_small {k : Int} {f : Form} (hfm : form? k = some f) {nm : ByteArray} {refs : List ByteArray} {nums : List Int} {bY : Int} {al : Bool} (hv : validB k nm refs nums bY al = true) : Small (wordsD k nm refs nums bY al) := by
 have hr : 0 ≤ k ∧ k < 17 := Classical.byContradiction fun hn => by rw [form_none hn] at hfm; cases hfm
 have hk : k = 0 ∨ k = 1 ∨ k = 2 ∨ k = 3 ∨ k = 4 ∨ k = 5 ∨ k = 6 ∨ k = 7 ∨ k = 8 ∨ k = 9 ∨ k = 10 ∨ k = 11 ∨ k = 12 ∨ k = 13 ∨ k = 14 ∨ k = 15 ∨ k = 16 := by omega
 rw [validB_form hfm] at hv
 simp only [Bool.and_eq_true, decide_eq_true_eq] at hv
 obtain ⟨⟨⟨⟨⟨⟨⟨v1, v2⟩, v3⟩, v4⟩, v5⟩, v6⟩, v7⟩, v8⟩ := hv
 have hnm : nm.size ≤ 1000 := by
  revert v6
  split
  · exact fun h => name_small h
  · intro h; have := (isEmpty_iff nm).1 h; omega
 have n0 := num_small v8 0
 have n1 := num_small v8 1
 have n2 := num_small v8 2
 have n3 := num_small v8 3
 have r0 := ref_small v7 0
 have r1 := ref_small v7 1
 have hp := plain_small v7 v8
 have hdw : ∀ b : Int, (domW b).size ≤ 1000 := fun b => by
  unfold domW; repeat' split
  all_goals decide
 have hcl : ∀ b : Nat, b ≤ 7 → (joinS (clsW b) (⟨#[44, 32]⟩ : ByteArray)).size ≤ 1000 := by decide +kernel
 have hw : ∀ x ∈ [(⟨#[108, 111, 97, 100]⟩ : ByteArray), (⟨#[115, 105, 122, 101]⟩ : ByteArray), (⟨#[115, 104, 97, 114, 101]⟩ : ByteArray), (⟨#[105, 110]⟩ : ByteArray), (⟨#[111, 110]⟩ : ByteArray), (⟨#[99, 97, 112, 97, 99, 105, 116, 121]⟩ : ByteArray), (⟨#[115, 108, 111, 116, 115]⟩ : ByteArray), (⟨#[114, 101, 115, 101, 114, 118, 101]⟩ : ByteArray), (⟨#[98, 121]⟩ : ByteArray), (⟨#[98, 101, 102, 111, 114, 101]⟩ : ByteArray), (⟨#[97, 108, 119, 97, 121, 115]⟩ : ByteArray)], x.size ≤ 1000 := by decide
 clear v5 v6
 rcases hk with rfl | rfl | rfl | rfl | rfl | rfl | rfl | rfl | rfl | rfl | rfl | rfl | rfl | rfl | rfl | rfl | rfl
 all_goals
  obtain rfl : _ = f := Option.some.inj hfm
  clear hfm
  simp only [] at v1 v2 v3
  have hj := joinS_small v7 (by omega)
  have hj2 := joinS_small (names_tail v7) (by simp; omega)
  refine ⟨?_, ?_⟩
  · simp [wordsD, loadW, keepW] <;> first | omega | (cases al <;> simp <;> omega)
  · intro x hx
    simp [wordsD, loadW, keepW] at hx
    simp only [List.getD_eq_getElem?_getD] at n0 n1 n2 n3 r0 r1
    simp only [List.mem_cons, List.not_mem_nil, or_false, forall_eq_or_imp, forall_eq] at hw
    have hd := hdw bY
    have hp' : ∀ n ∈ nums, (itoaS n).size ≤ 1000 := fun n hn => itoaS_small (List.all_eq_true.1 v8 n hn)
    have hq' : ∀ s ∈ refs, s.size ≤ 1000 := fun s hs => name_small (List.all_eq_true.1 v7 s hs)
    clear hdw hp
    first
     | (simp only [Bool.and_eq_true, decide_eq_true_eq] at v4
        subst hx
        exact hcl bY.toNat (by omega))
     | grind
end Go.Proofs.YtlnjaemdelnceaaGreatDoor
namespace Go.Proofs.YtlnjaemdelnceaaGreatDoor
open Go Go.RowKit Go.Proofs
theorem forms_lookup1 {w : World} {r B : Nat} (h : FormsAt w r B) (k : Int) :
    (Instr.lookup 137 (.map (some r)) (.int .i64 k) false).run Tryz.prog w = .ok (formVal B k) w := by
 have hk0 : ∃ o, Instr.findNow (.int .i64) (.int .i64 k) (ents (entF B) 17).toList 0 = some o ∧ pickO o (formVal 0 (-1)) = (formVal B k, (form? k).isSome) := by
  refine ⟨_, find_ents _ _ k, ?_⟩
  by_cases hk : 0 ≤ k ∧ k < ((17 : Nat) : Int)
  · rw [if_pos hk]; unfold pickO
    have hk2 : ((k.toNat : Nat) : Int) = k := by omega
    have : (form? k).isSome = true := by
     have : k = 0 ∨ k = 1 ∨ k = 2 ∨ k = 3 ∨ k = 4 ∨ k = 5 ∨ k = 6 ∨ k = 7 ∨ k = 8 ∨ k = 9 ∨ k = 10 ∨ k = 11 ∨ k = 12 ∨ k = 13 ∨ k = 14 ∨ k = 15 ∨ k = 16 := by omega
     rcases this with rfl | rfl | rfl | rfl | rfl | rfl | rfl | rfl | rfl | rfl | rfl | rfl | rfl | rfl | rfl | rfl | rfl <;> rfl
    simp only [entF, hk2, this]
  · rw [if_neg hk]; unfold pickO
    have hf : form? k = none := form_none (by omega)
    have h0 : form? (-1) = none := form_none (by omega)
    simp only [formVal, hf, h0, Option.isSome_none]
 obtain ⟨o, ho, hp⟩ := hk0
 exact run_lookup_int1 Tryz.underlying137 Tryz.underlying3 (zero_form w) h.1 ho hp
theorem lookup1_some {w : World} {r B : Nat} (h : FormsAt w r B) {k : Int} {f : Form} (hf : form? k = some f) :
    (Instr.lookup 137 (.map (some r)) (.int .i64 k) false).run Tryz.prog w = .ok (.agg #[.string f.word, .bool f.name, .int .i64 f.least, .int .i64 f.most, .int .i64 f.numbers, .func (.func (byF k)) #[] #[], .bool f.always, .func (.func (textF k)) #[] (capF B k)]) w := by
 rw [forms_lookup1 h k, formVal_some hf]
theorem word_size {k : Int} {f : Form} (hfm : form? k = some f) : f.word.size ≤ 8 := by
 have hr : 0 ≤ k ∧ k < 17 := Classical.byContradiction fun hn => by rw [form_none hn] at hfm; cases hfm
 have hk : k = 0 ∨ k = 1 ∨ k = 2 ∨ k = 3 ∨ k = 4 ∨ k = 5 ∨ k = 6 ∨ k = 7 ∨ k = 8 ∨ k = 9 ∨ k = 10 ∨ k = 11 ∨ k = 12 ∨ k = 13 ∨ k = 14 ∨ k = 15 ∨ k = 16 := by omega
 rcases hk with rfl | rfl | rfl | rfl | rfl | rfl | rfl | rfl | rfl | rfl | rfl | rfl | rfl | rfl | rfl | rfl | rfl
 all_goals
  obtain rfl : _ = f := Option.some.inj hfm
  decide
theorem joinS_size (l : List ByteArray) (hl : Small l) : (joinS l (⟨#[32]⟩ : ByteArray)).size ≤ 40040 := by
 have := join_len [32] (l.map (·.data.toList)) 1000 (by
  intro x hx
  obtain ⟨s, hs, rfl⟩ := List.mem_map.1 hx
  have := hl.2 s hs
  simpa using this)
 have h2 : (l.map (·.data.toList)).length * (1000 + 1) ≤ 40 * 1001 := Nat.mul_le_mul (by simpa using hl.1) (by omega)
 show (Lib.join (l.map (·.data.toList)) [32]).toArray.size ≤ 40040
 simp at this h2 ⊢; omega
def textS (f : Form) (words : List ByteArray) : ByteArray := f.word ++ (⟨#[32]⟩ : ByteArray) ++ joinS words (⟨#[32]⟩ : ByteArray) ++ (⟨#[59]⟩ : ByteArray)
def textB (k : Int) (nm : ByteArray) (refs : List ByteArray) (nums : List Int) (bY : Int) (al : Bool) : ByteArray :=
 if validB k nm refs nums bY al then (match form? k with | some f => textS f (wordsD k nm refs nums bY al) | none => ⟨#[]⟩) else ⟨#[]⟩
theorem text_prog (k : Int) (nm : ByteArray) (ra : Option Addr) (refs : List ByteArray) (rc : Nat) (na : Option Addr) (nums : List Int) (nc : Nat) (bY : Int) (al : Bool) (w : World) (ha : Asc w) (hpw : Pow w)
    (hs : nm.size ≤ 9223372036854775807) (hf : Fit refs) (hl1 : refs.length ≤ 9223372036854775807) (hl2 : nums.length ≤ 9223372036854775807) (hrc : refs.length ≤ rc) (hr : Strs w w.heap.size ra refs) (hn : Ints w w.heap.size na nums) :
    Calls Tryz.prog 60 #[.agg #[.int .i64 k, .string nm, .slice ra refs.length rc, .slice na nums.length nc, .int .i64 bY, .bool al]] w
     fun e w' => e = .returned (.string (textB k nm refs nums bY al)) ∧ Below w.heap.size w w' := by
 have hr1 := (hr.alloc (Nat.le_refl _) (.cells #[.int .i64 k, .string nm, .slice ra refs.length rc, .slice na nums.length nc, .int .i64 bY, .bool al] 102)).more (B' := (w.alloc (.cells #[.int .i64 k, .string nm, .slice ra refs.length rc, .slice na nums.length nc, .int .i64 bY, .bool al] 102)).heap.size) (by simp)
 have hn1 := (hn.alloc (Nat.le_refl _) (.cells #[.int .i64 k, .string nm, .slice ra refs.length rc, .slice na nums.length nc, .int .i64 bY, .bool al] 102)).more (B' := (w.alloc (.cells #[.int .i64 k, .string nm, .slice ra refs.length rc, .slice na nums.length nc, .int .i64 bY, .bool al] 102)).heap.size) (by simp)
 have ha1 : Asc (w.alloc (.cells #[.int .i64 k, .string nm, .slice ra refs.length rc, .slice na nums.length nc, .int .i64 bY, .bool al] 102)) := Asc.below ha (Nat.le_refl _) ((Below.refl _ _).alloc (Nat.le_refl _) _)
 have hvp := valid_prog k nm ra refs rc na nums nc bY al (w.alloc (.cells #[.int .i64 k, .string nm, .slice ra refs.length rc, .slice na nums.length nc, .int .i64 bY, .bool al] 102)) ha1 hs hf hl1 hl2 hr1 hn1
 have HVP := hide hvp
 clear hvp hr1 hn1 ha1
 cases hv : validB k nm refs nums bY al with
 | false =>
   rw [hv] at HVP
   have HT := hide (show textB k nm refs nums bY al = ⟨#[]⟩ by simp [textB, hv])
   have HV := hide hv
   clear hv
   go_enter Tryz.func60, Tryz.ntmps60
   go_wp2_with (go_at_call 105; refine Calls.mono HVP.out ?_; rintro e w1 ⟨rfl, hb⟩)
   go_ret
   exact ⟨ret_congr (by rw [HT.out]; rfl), ((Below.refl _ _).alloc (Nat.le_refl _) _).trans (hb.mono (by simp))⟩
 | true =>
   rw [hv] at HVP
   cases hfm : form? k with
   | none => rw [validB_none hfm] at hv; cases hv
   | some f =>
     have HT := hide (show textB k nm refs nums bY al = textS f (wordsD k nm refs nums bY al) by simp [textB, hv, hfm])
     have HTX := hide (text_any hfm nm ra refs rc na nums nc bY al hv hrc)
     have HSM := hide (words_small hfm hv)
     have HV := hide hv
     clear hv
     go_enter Tryz.func60, Tryz.ntmps60
     go_wp2_with (go_at_call 105; refine Calls.mono HVP.out ?_; rintro e w1 ⟨rfl, hb⟩)
     have hb1 : Below w.heap.size w w1 := ((Below.refl _ _).alloc (Nat.le_refl _) _).trans (hb.mono (by simp))
     have hD := (Blk.new w 102 #[.int .i64 k, .string nm, .slice ra refs.length rc, .slice na nums.length nc, .int .i64 bY, .bool al]).below hb (by simp)
     have hs1 : w.heap.size < w1.heap.size := by have := hb.size; simp at this; omega
     have hne1 : ¬ w.heap.size = w1.heap.size := by omega
     have hne2 : ¬ w1.heap.size = w.heap.size := by omega
     have d0 := hD.cell 0
     have d1 := hD.cell 1
     have d2 := hD.cell 2
     have d3 := hD.cell 3
     have d4 := hD.cell 4
     have d5 := hD.cell 5
     simp at d0 d1 d2 d3 d4 d5
     clear hb
     have HD := hide hD
     have HB1 := hide hb1
     clear hD hb1
     go_cut [3] (fun v wx => ∃ F B, v = .pointer (some ⟨F, 0, none⟩) ∧ Below w.heap.size w wx ∧ w.heap.size < wx.heap.size ∧ F < wx.heap.size ∧ B < wx.heap.size ∧ wx.cell? ⟨B, 0, none⟩ = some (.func (.func 152) #[] #[]) ∧ Blk wx w.heap.size 102 #[.int .i64 k, .string nm, .slice ra refs.length rc, .slice na nums.length nc, .int .i64 bY, .bool al] ∧ Blk wx F 136 #[.string f.word, .bool f.name, .int .i64 f.least, .int .i64 f.most, .int .i64 f.numbers, .func (.func (byF k)) #[] #[], .bool f.always, .func (.func (textF k)) #[] (capF B k)])
     case first =>
      go_region_held3 (fun W => W.cell? ⟨w.heap.size, 0, none⟩ = some (.int .i64 k) ∧ W.cell? ⟨w.heap.size, 1, none⟩ = some (.string nm) ∧ W.cell? ⟨w.heap.size, 2, none⟩ = some (.slice ra refs.length rc) ∧ W.cell? ⟨w.heap.size, 3, none⟩ = some (.slice na nums.length nc) ∧ W.cell? ⟨w.heap.size, 4, none⟩ = some (.int .i64 bY) ∧ W.cell? ⟨w.heap.size, 5, none⟩ = some (.bool al)) (first | (go_keep; done) | (refine ⟨?_, ?_, ?_, ?_, ?_, ?_⟩ <;> (first | assumption | (go_keep; done) | exact (World.cell?_alloc_lt _ _ _ hz2).trans (by assumption) | exact (World.cell?_alloc_lt _ _ _ hs1).trans (by assumption) | (rw [hc1 _ _ (by first | exact hs1 | (simp; omega))]; first | assumption | exact (World.cell?_alloc_lt _ _ _ hs1).trans (by assumption)))))
       ((go_at_call 106; have hH := (by assumption : _ ∧ _ ∧ _ ∧ _ ∧ _ ∧ _); obtain ⟨a0, a1, a2, a3, a4, a5⟩ := hH; refine (forms_any _).mono ?_; rintro e w2 ⟨rfl, hF, hb⟩; (try simp at hF); have hlk := lookup1_some hF hfm; have hlk2 := (fun o => lookup1_some (hF.alloc o) hfm); obtain ⟨hc1, _⟩ := bcell hb; have hz2 : w.heap.size < w2.heap.size := (by have := hb.size; simp at this; omega); have c0 := (hb.cell (p := ⟨w.heap.size, 0, none⟩) (by first | exact hs1 | (simp; omega))).trans a0; have c1 := (hb.cell (p := ⟨w.heap.size, 1, none⟩) (by first | exact hs1 | (simp; omega))).trans a1; have c2 := (hb.cell (p := ⟨w.heap.size, 2, none⟩) (by first | exact hs1 | (simp; omega))).trans a2; have c3 := (hb.cell (p := ⟨w.heap.size, 3, none⟩) (by first | exact hs1 | (simp; omega))).trans a3; have c4 := (hb.cell (p := ⟨w.heap.size, 4, none⟩) (by first | exact hs1 | (simp; omega))).trans a4; have c5 := (hb.cell (p := ⟨w.heap.size, 5, none⟩) (by first | exact hs1 | (simp; omega))).trans a5; clear a0 a1 a2 a3 a4 a5))
      all_goals
       go_wp2_with fail
       go_meet
       have hb0 : Below w1.heap.size w1 w2 := by
        refine Below.trans ?_ (hb.mono ?_)
        · repeat (first | (with_reducible exact Below.refl _ _) | (with_reducible refine Below.drew ?_) | (with_reducible refine Below.alloc ?_ ?_ _))
          all_goals (simp <;> omega)
        · simp <;> omega
       have hsz := hb.size
       simp at hsz
       have hB2 := HB1.out.trans (hb0.mono HB1.out.size)
       have hD2 := HD.out.below hb0 hs1
       clear c0 c1 c2 c3 c4 c5 hlk hlk2 hc1 d0 d1 d2 d3 d4 d5
       have hFb := hF.2
       have hFl := World.block_lt_of_cell? w2 _ hFb
       first
        | (have hG : Blk w2 w1.heap.size 136 #[.string ⟨#[]⟩, .bool false, .int .i64 0, .int .i64 0, .int .i64 0, .nilFunc, .bool false, .nilFunc] := by
             refine Blk.below ?_ hb ?_
             · repeat (first | (with_reducible exact Blk.new _ _ _) | (with_reducible refine Blk.drew ?_))
             · simp <;> omega
           clear hb
           refine ⟨w1.heap.size, w1.heap.size + 1, rfl, ?_, ?_, ?_, ?_, ?_, ?_, ?_⟩
           · repeat (first | (with_reducible exact hB2) | (with_reducible refine Below.setCell ?_ ?_ _))
             all_goals (simp <;> omega)
           · simp <;> omega
           · simp <;> omega
           · simp at hFl ⊢ <;> omega
           · iterate 8 rw [World.cell?_setCell_other _ _ _ _ (by intro h; simp at h)]
             exact hFb
           · repeat (first | (with_reducible exact hD2) | (with_reducible refine Blk.far ?_ ?_ _))
             all_goals (simp <;> omega)
           · have := ((((((((hG.set_ 0 (.string f.word)).set_ 1 (.bool f.name)).set_ 2 (.int .i64 f.least)).set_ 3 (.int .i64 f.most)).set_ 4 (.int .i64 f.numbers)).set_ 5 (.func (.func (byF k)) #[] #[])).set_ 6 (.bool f.always)).set_ 7 (.func (.func (textF k)) #[] (capF (w1.heap.size + 1) k)))
             simpa using this)
        | (clear hb
           refine ⟨w2.heap.size, w1.heap.size, rfl, hB2.alloc hB2.size _, ?_, ?_, ?_, ?_, hD2.alloc _, Blk.new _ _ _⟩
           · simp; omega
           · simp
           · simp at hFl ⊢; omega
           · rw [World.cell?_alloc_lt _ _ _ hFl]; exact hFb)
     case rest =>
      clear hne1 hne2 d0 d1 d2 d3 d4 d5 hs1
      obtain ⟨F, B, rfl, hbw, hs3, hF3, hB3, hcB, hD, hG⟩ := hcut
      have f0 := hG.cell 0
      have f7 := hG.cell 7
      have d0 := hD.cell 0
      have d1 := hD.cell 1
      have d2 := hD.cell 2
      have d3 := hD.cell 3
      have d4 := hD.cell 4
      have d5 := hD.cell 5
      simp at f0 f7 d0 d1 d2 d3 d4 d5
      have heg := HTX.out.1
      have hjl1 := hide (show (wordsD k nm refs nums bY al).length ≤ 140737488355328 by have := HSM.out.1; omega)
      have hjl2 := hide (show (Lib.join ((wordsD k nm refs nums bY al).map (·.data.toList)) ((⟨#[32]⟩ : ByteArray) : ByteArray).data.toList).length ≤ 140737488355328 by
       have := join_len ((⟨#[32]⟩ : ByteArray) : ByteArray).data.toList ((wordsD k nm refs nums bY al).map (·.data.toList)) 1000 (by
        intro x hx
        obtain ⟨s, hs, rfl⟩ := List.mem_map.1 hx
        have := HSM.out.2 s hs
        simpa using this)
       have h2 : ((wordsD k nm refs nums bY al).map (·.data.toList)).length * (1000 + ((⟨#[32]⟩ : ByteArray) : ByteArray).data.toList.length) ≤ 40 * 1001 := Nat.mul_le_mul (by simpa using HSM.out.1) (by decide)
       omega)
      have HTC := hide (HTX.out.2 B wc.drew (Pow.below hpw (Nat.le_refl _) hbw.drew) hB3 hcB ((hr.below hbw.drew).more hbw.size) ((hn.below hbw.drew).more hbw.size))
      have hz1 : f.word.size ≤ 8 := word_size hfm
      have hz2 := joinS_size _ HSM.out
      have hz3 : ((⟨#[32]⟩ : ByteArray) : ByteArray).size = 1 := rfl
      have hz4 : ((⟨#[59]⟩ : ByteArray) : ByteArray).size = 1 := rfl
      have q1 : ∀ W, (Op.stringOp .add f.word (⟨#[32]⟩ : ByteArray)).run Tryz.prog W = .ok (.string (f.word ++ (⟨#[32]⟩ : ByteArray))) W := fun W => run_string_add_sum W _ _ (by omega)
      have q2 : ∀ W, (Op.stringOp .add (f.word ++ (⟨#[32]⟩ : ByteArray)) (joinS (wordsD k nm refs nums bY al) (⟨#[32]⟩ : ByteArray))).run Tryz.prog W = .ok (.string (f.word ++ (⟨#[32]⟩ : ByteArray) ++ joinS (wordsD k nm refs nums bY al) (⟨#[32]⟩ : ByteArray))) W := fun W => run_string_add_sum W _ _ (by rw [ByteArray.size_append]; omega)
      have q3 : ∀ W, (Op.stringOp .add (f.word ++ (⟨#[32]⟩ : ByteArray) ++ joinS (wordsD k nm refs nums bY al) (⟨#[32]⟩ : ByteArray)) (⟨#[59]⟩ : ByteArray)).run Tryz.prog W = .ok (.string (f.word ++ (⟨#[32]⟩ : ByteArray) ++ joinS (wordsD k nm refs nums bY al) (⟨#[32]⟩ : ByteArray) ++ (⟨#[59]⟩ : ByteArray))) W := fun W => run_string_add_sum W _ _ (by rw [ByteArray.size_append, ByteArray.size_append]; omega)
      clear hz1 hz2 hz3 hz4
      have HBW := hide hbw
      have hszF := hF3
      clear hbw hcB hB3 HTX HVP
      go_wp2_with fail
      go_region_held3 (fun W => W.cell? ⟨F, 0, none⟩ = some (.string f.word) ∧ W.cell? ⟨F, 7, none⟩ = some (.func (.func (textF k)) #[] (capF B k)) ∧ W.cell? ⟨w.heap.size, 0, none⟩ = some (.int .i64 k) ∧ W.cell? ⟨w.heap.size, 1, none⟩ = some (.string nm) ∧ W.cell? ⟨w.heap.size, 2, none⟩ = some (.slice ra refs.length rc) ∧ W.cell? ⟨w.heap.size, 3, none⟩ = some (.slice na nums.length nc) ∧ W.cell? ⟨w.heap.size, 4, none⟩ = some (.int .i64 bY) ∧ W.cell? ⟨w.heap.size, 5, none⟩ = some (.bool al))
       (first | (go_keep; done) | (refine ⟨?_, ?_, ?_, ?_, ?_, ?_, ?_, ?_⟩ <;> assumption))
       (first
         | ((with_reducible refine Calls.mono (HTC.out) ?_); have hH := (by assumption : _ ∧ _ ∧ _ ∧ _ ∧ _ ∧ _ ∧ _ ∧ _); obtain ⟨a0, a1, a2, a3, a4, a5, a6, a7⟩ := hH; rintro e w4 ⟨v4, rfl, hO, hb⟩; obtain ⟨A4, c4, rfl, hA4, hc4⟩ := hO.form2; have c0 := (hb.cell (p := ⟨F, 0, none⟩) hszF).trans a0; have c1 := (hb.cell (p := ⟨F, 7, none⟩) hszF).trans a1; have c2 := (hb.cell (p := ⟨w.heap.size, 0, none⟩) hs3).trans a2; have c3 := (hb.cell (p := ⟨w.heap.size, 1, none⟩) hs3).trans a3; have c4x := (hb.cell (p := ⟨w.heap.size, 2, none⟩) hs3).trans a4; have c5 := (hb.cell (p := ⟨w.heap.size, 3, none⟩) hs3).trans a5; have c6 := (hb.cell (p := ⟨w.heap.size, 4, none⟩) hs3).trans a6; have c7 := (hb.cell (p := ⟨w.heap.size, 5, none⟩) hs3).trans a7; clear a0 a1 a2 a3 a4 a5 a6 a7)
         | (go_at_call 107; have hH := (by assumption : _ ∧ _ ∧ _ ∧ _ ∧ _ ∧ _ ∧ _ ∧ _); obtain ⟨a0, a1, a2, a3, a4, a5, a6, a7⟩ := hH; refine (join_any A4 c4 (wordsD k nm refs nums bY al) (⟨#[32]⟩ : ByteArray) _ hA4 hc4 hjl1.out hjl2.out).mono ?_; rintro e w5 ⟨rfl, hb5⟩; have e0 := (hb5.cell (p := ⟨F, 0, none⟩) (Nat.lt_of_lt_of_le hszF hb.size)).trans a0; have e1 := (hb5.cell (p := ⟨F, 7, none⟩) (Nat.lt_of_lt_of_le hszF hb.size)).trans a1; have e2 := (hb5.cell (p := ⟨w.heap.size, 0, none⟩) (Nat.lt_of_lt_of_le hs3 hb.size)).trans a2; have e3 := (hb5.cell (p := ⟨w.heap.size, 1, none⟩) (Nat.lt_of_lt_of_le hs3 hb.size)).trans a3; have e4 := (hb5.cell (p := ⟨w.heap.size, 2, none⟩) (Nat.lt_of_lt_of_le hs3 hb.size)).trans a4; have e5 := (hb5.cell (p := ⟨w.heap.size, 3, none⟩) (Nat.lt_of_lt_of_le hs3 hb.size)).trans a5; have e6 := (hb5.cell (p := ⟨w.heap.size, 4, none⟩) (Nat.lt_of_lt_of_le hs3 hb.size)).trans a6; have e7 := (hb5.cell (p := ⟨w.heap.size, 5, none⟩) (Nat.lt_of_lt_of_le hs3 hb.size)).trans a7; clear a0 a1 a2 a3 a4 a5 a6 a7))
      clear q1 q2 q3
      go_wp2_with fail
      go_ret
      have hbw := HBW.out.drew
      have hb4 := hbw.trans (hb.mono hbw.size)
      exact ⟨ret_congr (by rw [HT.out]; rfl), hb4.trans (hb5.mono hb4.size)⟩
structure MS (w : World) (M : Array Value) (W : World) : Prop where
 m : Blk W w.heap.size 29 M
 b : Below w.heap.size w W
theorem MS.grow {w : World} {M : Array Value} {W W2 : World} (s : MS w M W) (hb : Below W.heap.size W W2) : MS w M W2 := ⟨s.m.below hb s.m.lt, s.b.trans (hb.mono s.b.size)⟩
theorem MS.drew {w : World} {M : Array Value} {W : World} (s : MS w M W) : MS w M W.drew := ⟨s.m.drew, s.b.drew⟩
theorem MS.cells {w : World} {h : MH} {m : Mod} {W : World} (s : MS w #[.slice h.s m.sT.length h.sc, .slice h.f m.fT.length h.fc, .slice h.r m.rT.length h.rc, .slice h.m m.mT.length h.mc, .slice h.l m.lT.length h.lc, .slice h.i m.iT.length h.ic, .int .i64 m.dT, .int .i64 m.oT, .int .i64 m.vT, .int .i64 m.aT, .slice h.u m.uT.length h.uc] W) : W.cell? ⟨w.heap.size, 0, none⟩ = some (.slice h.s m.sT.length h.sc) ∧ W.cell? ⟨w.heap.size, 1, none⟩ = some (.slice h.f m.fT.length h.fc) ∧ W.cell? ⟨w.heap.size, 2, none⟩ = some (.slice h.r m.rT.length h.rc) ∧ W.cell? ⟨w.heap.size, 3, none⟩ = some (.slice h.m m.mT.length h.mc) ∧ W.cell? ⟨w.heap.size, 4, none⟩ = some (.slice h.l m.lT.length h.lc) ∧ W.cell? ⟨w.heap.size, 5, none⟩ = some (.slice h.i m.iT.length h.ic) ∧ W.cell? ⟨w.heap.size, 6, none⟩ = some (.int .i64 m.dT) ∧ W.cell? ⟨w.heap.size, 7, none⟩ = some (.int .i64 m.oT) ∧ W.cell? ⟨w.heap.size, 8, none⟩ = some (.int .i64 m.vT) ∧ W.cell? ⟨w.heap.size, 9, none⟩ = some (.int .i64 m.aT) ∧ W.cell? ⟨w.heap.size, 10, none⟩ = some (.slice h.u m.uT.length h.uc) := MB.cells s.m
end Go.Proofs.YtlnjaemdelnceaaGreatDoor
