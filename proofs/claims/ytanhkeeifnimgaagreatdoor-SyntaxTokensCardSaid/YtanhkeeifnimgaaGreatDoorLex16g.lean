/- The walk of package lexer's Format. Conditions: lengths that fit memory. -/
import Derived.Test.YtanhkeeifnimgaaGreatDoorByte17
import Derived.Test.YtanhkeeifnimgaaGreatDoorOwn3
import Derived.Test.YtanhkeeifnimgaaGreatDoorFmt17
namespace Go.Proofs.YtanhkeeifnimgaaGreatDoor
open Go Go.RowKit Go.Proofs

theorem lit_eq (s : ByteArray) (c : UInt8) : (s.toList == [c]) = decide (s = ⟨#[c]⟩) := by
  have := toList_beq s ⟨#[c]⟩
  rw [← this, ByteArray.toList_eq ⟨#[c]⟩]
set_option maxRecDepth 100000 in
set_option maxHeartbeats 4000000 in
theorem lexFormat_any (A : Option Addr) (c : Nat) (L : List Tok) (w : World) (h : Toks w w.heap.size A L) (hl : L.length ≤ 100000) (hsz : (fmtGo true (L.map tkOf)).length ≤ 1000000) (hne : fmtGo true (L.map tkOf) ≠ []) :
    Calls Tryz.prog 14 #[.slice A L.length c] w fun e w' => e = .returned (.string (S (fmtGo true (L.map tkOf)))) ∧ Below w.heap.size w w' := by
  generalize hF : fmtGo true (L.map tkOf) = F at hsz hne
  have HF0 := hide hF
  clear hF
  go_enter Tryz.func14, Tryz.ntmps14
  go_wp2_with fail
  go_loopw [4, 9] (fun v i wr => ∃ (k : Nat) (fb : Bool) (out : List UInt8), k ≤ L.length ∧ v = .bool fb ∧ i = .int .i64 k ∧ Lib.IsBuilderF TB TU w.heap.size w.heap.size (Lib.byteCells out) wr ∧ Below w.heap.size w wr ∧ w.heap.size < wr.heap.size ∧ Hid (F = out ++ fmtGo fb ((L.drop k).map tkOf))) (fun _ i _ => L.length - (intOf i).toNat)
  case atStart => exact ⟨0, true, [], Nat.zero_le _, rfl, rfl, .inl ⟨Nat.le_refl _, _, heap_alloc_new w _, by simpa [Lib.byteCells] using World.ownsRowF_nil _ _ _ _, by simp [Value.ownBlock]⟩, (Below.refl _ _).alloc (Nat.le_refl _) _, by simp, hide HF0.out.symm⟩
  case round =>
    obtain ⟨k, fb, out, hk, rfl, rfl, hI, hB, hZ, hf⟩ := hrel
    by_cases hlt : k < L.length
    · have hltI : (k : Int) < (L.length : Int) := by omega
      obtain ⟨b, off, rfl, hbz, y0, y1, y2, y3⟩ := (h.below hB).at_ hlt
      have hd : L.drop k = L[k] :: L.drop (k + 1) := List.drop_eq_getElem_cons hlt
      obtain ⟨t, ht⟩ : ∃ t, t = L[k] := ⟨_, rfl⟩
      rw [← ht] at y0 y1 y2 y3 hd
      obtain ⟨tk, tt, tn, tp⟩ := t
      simp only at y0 y1 y2 y3
      have hstep : ∀ r, fmtGo fb (tkOf ⟨tk, tt, tn, tp⟩ :: r) = if tk = 0 then fmtGo fb r else (if !fb && decide (tt ≠ (⟨#[59]⟩ : ByteArray)) && decide (tt ≠ (⟨#[44]⟩ : ByteArray)) then [32] else []) ++ bs tt ++ fmtGo false r := fun r => rfl
      have hf1 := hf.out
      rw [hd, List.map_cons, hstep] at hf1
      clear hd hf ht hstep
      have hI1 := hI.alloc (.cells #[.int .i64 tk, .string tt, .int .i64 tn, .int .i64 tp] 34)
      have hB1 := hB.alloc hB.size (.cells #[.int .i64 tk, .string tt, .int .i64 tn, .int .i64 tp] 34)
      have hX := Blk.new wr 34 #[.int .i64 tk, .string tt, .int .i64 tn, .int .i64 tp]
      by_cases q0 : tk = 0
      · have HF := hide (hf1.trans (by rw [if_pos q0]))
        have b0 : ((tk : Int) == 0) = true := by simp [q0]
        clear hf1 q0
        go_wp2_with fail
        exact ⟨⟨k + 1, fb, out, by omega, rfl, by go_num, hI1, hB1, by simp; omega, HF⟩, by simp [intOf]; omega⟩
      · have b0 : ((tk : Int) == 0) = false := by simpa using q0
        rw [if_neg q0] at hf1
        clear q0
        have hlen := congrArg List.length hf1
        simp only [List.length_append] at hlen
        have hob : out.length + (bs tt).length ≤ 1000000 := by omega
        have hbt : (bs tt).length = tt.size := rfl
        have hcl : (Lib.byteCells out).length = out.length := Lib.byteCells_length out
        have hcl2 : (Lib.byteCells out ++ [Value.int .u8 32]).length = out.length + 1 := by simp [hcl]
        clear hlen
        have hcase : (fb = false ∧ tt ≠ (⟨#[59]⟩ : ByteArray) ∧ tt ≠ (⟨#[44]⟩ : ByteArray)) ∨ (fb = true) ∨ (fb = false ∧ tt = (⟨#[59]⟩ : ByteArray)) ∨ (fb = false ∧ tt ≠ (⟨#[59]⟩ : ByteArray) ∧ tt = (⟨#[44]⟩ : ByteArray)) := by
          cases fb
          · by_cases e1 : tt = (⟨#[59]⟩ : ByteArray)
            · exact .inr (.inr (.inl ⟨rfl, e1⟩))
            · by_cases e2 : tt = (⟨#[44]⟩ : ByteArray)
              · exact .inr (.inr (.inr ⟨rfl, e1, e2⟩))
              · exact .inl ⟨rfl, e1, e2⟩
          · exact .inr (.inl rfl)
        rcases hcase with ⟨rfl, e1, e2⟩ | rfl | ⟨rfl, e1⟩ | ⟨rfl, e1, e2⟩
        · have HF := hide (hf1.trans (show _ = (out ++ [32] ++ bs tt) ++ fmtGo false ((L.drop (k + 1)).map tkOf) by simp [e1, e2]))
          have p1 : (tt.toList == [59]) = false := by rw [lit_eq]; simpa using e1
          have p2 : (tt.toList == [44]) = false := by rw [lit_eq]; simpa using e2
          clear hf1 e1 e2
          go_wp2_with (first
            | (go_at_call 31; refine (writeByte_k w.heap.size w.heap.size (Lib.byteCells out) 32 _ hI1 (by omega) hB1.size).mono ?_; rintro e x1 ⟨rfl, hI2, hb2, ho2⟩; have hX2 := blk_others ho2 hX (by omega) (by decide); have hc2 := hX2.cell 1; simp at hc2; have hB2 := hB1.trans hb2)
            | (go_at_call 32; refine (writeString_k w.heap.size w.heap.size _ tt _ (.inr hI2) (by omega) hB2.size).mono ?_; rintro e x2 ⟨rfl, hI3, hb3, ho3⟩))
          refine ⟨⟨k + 1, false, out ++ [32] ++ bs tt, by omega, rfl, by go_num, .inr ?_, hB2.trans hb3, ?_, HF⟩, by simp [intOf]; omega⟩
          · have e : Lib.byteCells (out ++ [32] ++ bs tt) = Lib.byteCells out ++ [Value.int .u8 32] ++ Lib.strCells tt := by rw [Lib.byteCells_append, Lib.byteCells_append, Lib.strCells_eq]; rfl
            rw [e]; exact hI3
          · have h2 := hX2.lt
            have h3 := hb3.size
            have h4 := blk_others ho3 hX2 (by omega) (by decide)
            have := h4.lt
            omega
        · have HF := hide (hf1.trans (show _ = (out ++ bs tt) ++ fmtGo false ((L.drop (k + 1)).map tkOf) by simp))
          clear hf1
          go_wp2_with (go_at_call 32; refine (writeString_k w.heap.size w.heap.size _ tt _ hI1 (by omega) hB1.size).mono ?_; rintro e x2 ⟨rfl, hI3, hb3, ho3⟩)
          refine ⟨⟨k + 1, false, out ++ bs tt, by omega, rfl, by go_num, .inr ?_, hB1.trans hb3, ?_, HF⟩, by simp [intOf]; omega⟩
          · have e : Lib.byteCells (out ++ bs tt) = Lib.byteCells out ++ Lib.strCells tt := by rw [Lib.byteCells_append, Lib.strCells_eq]; rfl
            rw [e]; exact hI3
          · have h4 := blk_others ho3 hX (by omega) (by decide)
            have := h4.lt
            omega
        · have HF := hide (hf1.trans (show _ = (out ++ bs tt) ++ fmtGo false ((L.drop (k + 1)).map tkOf) by simp [e1]))
          have p1 : (tt.toList == [59]) = true := by rw [lit_eq]; simpa using e1
          clear hf1 e1
          go_wp2_with (go_at_call 32; refine (writeString_k w.heap.size w.heap.size _ tt _ hI1 (by omega) hB1.size).mono ?_; rintro e x2 ⟨rfl, hI3, hb3, ho3⟩)
          refine ⟨⟨k + 1, false, out ++ bs tt, by omega, rfl, by go_num, .inr ?_, hB1.trans hb3, ?_, HF⟩, by simp [intOf]; omega⟩
          · have e : Lib.byteCells (out ++ bs tt) = Lib.byteCells out ++ Lib.strCells tt := by rw [Lib.byteCells_append, Lib.strCells_eq]; rfl
            rw [e]; exact hI3
          · have h4 := blk_others ho3 hX (by omega) (by decide)
            have := h4.lt
            omega
        · have HF := hide (hf1.trans (show _ = (out ++ bs tt) ++ fmtGo false ((L.drop (k + 1)).map tkOf) by simp [e2]))
          have p1 : (tt.toList == [59]) = false := by rw [lit_eq]; simpa using e1
          have p2 : (tt.toList == [44]) = true := by rw [lit_eq]; simpa using e2
          clear hf1 e1 e2
          go_wp2_with (go_at_call 32; refine (writeString_k w.heap.size w.heap.size _ tt _ hI1 (by omega) hB1.size).mono ?_; rintro e x2 ⟨rfl, hI3, hb3, ho3⟩)
          refine ⟨⟨k + 1, false, out ++ bs tt, by omega, rfl, by go_num, .inr ?_, hB1.trans hb3, ?_, HF⟩, by simp [intOf]; omega⟩
          · have e : Lib.byteCells (out ++ bs tt) = Lib.byteCells out ++ Lib.strCells tt := by rw [Lib.byteCells_append, Lib.strCells_eq]; rfl
            rw [e]; exact hI3
          · have h4 := blk_others ho3 hX (by omega) (by decide)
            have := h4.lt
            omega
    · have hd : L.drop k = [] := List.drop_of_length_le (by omega)
      have hf1 := hf.out
      rw [hd] at hf1
      simp only [List.map_nil, fmtGo, List.append_nil] at hf1
      have hkI : ¬ (k : Int) < (L.length : Int) := by omega
      have HS := hide (string_k w.heap.size w.heap.size out wr hI (by rw [← hf1]; exact hne))
      rw [← hf1] at HS
      clear hf1 hd hf
      go_wp2_with (go_at_call 33; refine HS.out.mono ?_; rintro e x2 ⟨rfl, _, hb3, _⟩)
      go_ret
      exact ⟨rfl, hB.trans hb3⟩
end Go.Proofs.YtanhkeeifnimgaaGreatDoor
