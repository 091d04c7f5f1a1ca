/- The walk of exoduslaw17.SyntaxTokens: it answers true. Conditions: the tables are laid; lengths that fit memory. -/
import Derived.Test.YtanhkeeifnimgaaGreatDoorAwake17
import Derived.Test.YtanhkeeifnimgaaGreatDoorToks17
import Derived.Test.YtanhkeeifnimgaaGreatDoorLex16g
import Derived.Test.YtanhkeeifnimgaaGreatDoorSyn17r
import Derived.Test.YtanhkeeifnimgaaGreatDoorRef17d
namespace Go.Proofs.YtanhkeeifnimgaaGreatDoor
open Go Go.RowKit Go.Proofs

theorem lex_len {l : List UInt8} {ts : List Tk} (h : LexTo l ts) : ts.length ≤ l.length := by
  induction h with
  | nil => exact Nat.le_refl _
  | @cons l t ts hne htok _ ih =>
    have hlp : 0 < l.length := List.length_pos_iff.2 hne
    have hts := tok_size (s := S l) hlp (by rw [htok])
    rw [htok] at hts
    have h1 := skip_len_le false (l.drop t.text.size)
    have h2 : (skipM false (l.drop t.text.size)).length ≤ l.length - t.text.size := by rw [List.length_drop] at h1; exact h1
    have h3 : ts.length ≤ (skipM false (l.drop t.text.size)).length := ih
    have h4 : 1 ≤ t.text.size := hts.1
    simp only [List.length_cons]
    omega
theorem toks_len {d : Decl} (h : okD d = true) {L : List Tok} (hL : scanT (textD d) = (L, 0, 0)) : L.length ≤ 16385 := by
  obtain ⟨toks, e1, e2⟩ := scan_text h
  obtain rfl := congrArg (·.1) (hL.symm.trans e1)
  have h1 := lex_len (text_lex h)
  have h2 := text_short h
  rw [← e2, List.length_map] at h1
  have h3 : (bs (textD d)).length = (textD d).size := rfl
  simp; omega
theorem lex_nil_ne {l : List UInt8} {ts : List Tk} (h : LexTo l ts) (hne : ts ≠ []) : l ≠ [] := by
  cases h with
  | nil => exact absurd rfl hne
  | cons h _ _ => exact h
theorem text_ne {d : Decl} (h : okD d = true) : bs (textD d) ≠ [] := lex_nil_ne (text_lex h) (by unfold textTk; simp)
theorem S_bs (s : ByteArray) : S (bs s) = s := data_S s
set_option maxRecDepth 100000 in
set_option maxHeartbeats 4000000 in
theorem syntaxTokens_walk (k : Int) (nm : ByteArray) (ra : Option Addr) (refs : List ByteArray) (rc : Nat) (na : Option Addr) (nums : List Int) (nc : Nat) (bY : Int) (al : Bool) (w : World) (ha : Asc w) (hp : Pow w) (hs : nm.size ≤ 9223372036854775807) (hf : Fit refs) (hl : refs.length ≤ 9223372036854775807) (hm : nums.length ≤ 9223372036854775807) (hrc : refs.length ≤ rc) (_hnc : nums.length ≤ nc) (hr : Strs w w.heap.size ra refs) (hn : Ints w w.heap.size na nums) :
    Calls Tryz.prog 4 #[.agg #[.int .i64 k, .string nm, .slice ra refs.length rc, .slice na nums.length nc, .int .i64 bY, .bool al]] w fun e w' => e = .returned (.bool true) ∧ Below w.heap.size w w' := by
  have hB0 : Below w.heap.size w (w.alloc (.cells #[.int .i64 k, .string nm, .slice ra refs.length rc, .slice na nums.length nc, .int .i64 bY, .bool al] 25)) := (Below.refl _ _).alloc (Nat.le_refl _) _
  have HW := hide (awake17 _ (Asc.below ha (Nat.le_refl _) hB0) (Pow.below hp (Nat.le_refl _) hB0))
  have HA := hide ha
  have HP := hide hp
  clear ha hp
  have HV := (fun (X : World) (h2 : Strs X X.heap.size ra refs) (h3 : Ints X X.heap.size na nums) => valid_ref k nm ra refs rc na nums nc bY al X hs hf hl hm h2 h3)
  cases hv : validB k nm refs nums bY al
  · rw [hv] at HV
    have HV := hide HV
    clear hv
    go_enter Tryz.func4, Tryz.ntmps4
    go_wp2_with (first | (go_at_call 8; refine HW.out.mono ?_; rintro e w1 ⟨rfl, hb1⟩; have eB : Below w.heap.size w w1 := hB0.trans (hb1.mono hB0.size); have hD := (Blk.new w 25 #[.int .i64 k, .string nm, .slice ra refs.length rc, .slice na nums.length nc, .int .i64 bY, .bool al]).below hb1 (by simp); have eZ := hD.lt; have d0 := hD.cell 0; have d1 := hD.cell 1; have d2 := hD.cell 2; have d3 := hD.cell 3; have d4 := hD.cell 4; have d5 := hD.cell 5; simp at d0 d1 d2 d3 d4 d5; clear hb1 hD hB0) | (go_at_call 9; (with_reducible refine (HV.out _ ((hr.below eB).more eB.size) ((hn.below eB).more eB.size)).mono ?_); rintro e w2 ⟨rfl, hb2⟩; have eB2 := eB.trans (hb2.mono eB.size); have eZ2 := Nat.lt_of_lt_of_le eZ hb2.size; have f0 := (hb2.cell (p := ⟨w.heap.size, 0, none⟩) (by simp; omega)).trans d0; have f1 := (hb2.cell (p := ⟨w.heap.size, 1, none⟩) (by simp; omega)).trans d1; have f2 := (hb2.cell (p := ⟨w.heap.size, 2, none⟩) (by simp; omega)).trans d2; have f3 := (hb2.cell (p := ⟨w.heap.size, 3, none⟩) (by simp; omega)).trans d3; have f4 := (hb2.cell (p := ⟨w.heap.size, 4, none⟩) (by simp; omega)).trans d4; have f5 := (hb2.cell (p := ⟨w.heap.size, 5, none⟩) (by simp; omega)).trans d5))
    go_ret
    exact ⟨rfl, eB2⟩
  · rw [hv] at HV
    have HV := hide HV
    obtain ⟨L, hL, ⟨hL3, hLk, hLt, hLs⟩, hLf⟩ := toks_of (d := ⟨k, nm, refs, nums, bY, al⟩) hv
    have hLl := toks_len (d := ⟨k, nm, refs, nums, bY, al⟩) hv hL
    have hsht := text_short (d := ⟨k, nm, refs, nums, bY, al⟩) hv
    have hnz := text_ne (d := ⟨k, nm, refs, nums, bY, al⟩) hv
    have hbl : (bs (textD ⟨k, nm, refs, nums, bY, al⟩)).length = (textD ⟨k, nm, refs, nums, bY, al⟩).size := rfl
    change L[0].text = kindName k at hLt
    have hsz := (textD_valid (d := ⟨k, nm, refs, nums, bY, al⟩) hv).2
    have HT := (fun (X : World) h1 h2 (h3 : Strs X X.heap.size ra refs) (h4 : Ints X X.heap.size na nums) => text_prog k nm ra refs rc na nums nc bY al X h1 h2 hs hf hl hm hrc h3 h4)
    have HS := fun (X : World) (h : Asc X) => scan_any (textD ⟨k, nm, refs, nums, bY, al⟩) X h (by omega)
    rw [hL] at HS
    change ∀ (X : World), _ → _ → _ → _ → Calls _ _ _ _ (fun e w' => e = .returned (.string (textD ⟨k, nm, refs, nums, bY, al⟩)) ∧ _) at HT
    generalize textD ⟨k, nm, refs, nums, bY, al⟩ = s at HT HS hLf hsht hbl hnz
    have HT := hide HT
    have HS := hide HS
    have HFm := fun (c : Nat) (A : Option Addr) (X : World) (h : Toks X X.heap.size A L) => lexFormat_any A c L X h (by omega) (by rw [hLf, hbl]; omega) (by rw [hLf]; exact hnz)
    rw [hLf, S_bs] at HFm
    have HFm := hide HFm
    clear hL hsz hv hLf hsht
    go_enter Tryz.func4, Tryz.ntmps4
    go_wp2_with (first | (go_at_call 8; refine HW.out.mono ?_; rintro e w1 ⟨rfl, hb1⟩; have eB : Below w.heap.size w w1 := hB0.trans (hb1.mono hB0.size); have hD := (Blk.new w 25 #[.int .i64 k, .string nm, .slice ra refs.length rc, .slice na nums.length nc, .int .i64 bY, .bool al]).below hb1 (by simp); have eZ := hD.lt; have d0 := hD.cell 0; have d1 := hD.cell 1; have d2 := hD.cell 2; have d3 := hD.cell 3; have d4 := hD.cell 4; have d5 := hD.cell 5; simp at d0 d1 d2 d3 d4 d5; clear hb1 hD hB0) | (go_at_call 9; (with_reducible refine (HV.out _ ((hr.below eB).more eB.size) ((hn.below eB).more eB.size)).mono ?_); rintro e w2 ⟨rfl, hb2⟩; have eB2 := eB.trans (hb2.mono eB.size); have eZ2 := Nat.lt_of_lt_of_le eZ hb2.size; have f0 := (hb2.cell (p := ⟨w.heap.size, 0, none⟩) (by simp; omega)).trans d0; have f1 := (hb2.cell (p := ⟨w.heap.size, 1, none⟩) (by simp; omega)).trans d1; have f2 := (hb2.cell (p := ⟨w.heap.size, 2, none⟩) (by simp; omega)).trans d2; have f3 := (hb2.cell (p := ⟨w.heap.size, 3, none⟩) (by simp; omega)).trans d3; have f4 := (hb2.cell (p := ⟨w.heap.size, 4, none⟩) (by simp; omega)).trans d4; have f5 := (hb2.cell (p := ⟨w.heap.size, 5, none⟩) (by simp; omega)).trans d5) | (go_at_call 11; refine (HT.out _ (Asc.below HA.out (Nat.le_refl _) eB2) (Pow.below HP.out (Nat.le_refl _) eB2) ((hr.below eB2).more eB2.size) ((hn.below eB2).more eB2.size)).mono ?_; rintro e w3 ⟨rfl, hb3⟩; have eB3 := eB2.trans (hb3.mono eB2.size); have eZ3 := Nat.lt_of_lt_of_le eZ2 hb3.size; have g0 := (hb3.cell (p := ⟨w.heap.size, 0, none⟩) (by simp; omega)).trans f0; have g1 := (hb3.cell (p := ⟨w.heap.size, 1, none⟩) (by simp; omega)).trans f1; have g2 := (hb3.cell (p := ⟨w.heap.size, 2, none⟩) (by simp; omega)).trans f2; have g3 := (hb3.cell (p := ⟨w.heap.size, 3, none⟩) (by simp; omega)).trans f3; have g4 := (hb3.cell (p := ⟨w.heap.size, 4, none⟩) (by simp; omega)).trans f4; have g5 := (hb3.cell (p := ⟨w.heap.size, 5, none⟩) (by simp; omega)).trans f5) | (go_at_call 10; refine (HS.out _ (Asc.below HA.out (Nat.le_refl _) eB3)).mono ?_; rintro e z ⟨A, c, rfl, hAc, hA, hb4⟩; have eB4 := eB3.trans (hb4.mono eB3.size); have eZ4 := Nat.lt_of_lt_of_le eZ3 hb4.size; have k0 := (hb4.cell (p := ⟨w.heap.size, 0, none⟩) (by simp; omega)).trans g0; have k1 := (hb4.cell (p := ⟨w.heap.size, 1, none⟩) (by simp; omega)).trans g1; have k2 := (hb4.cell (p := ⟨w.heap.size, 2, none⟩) (by simp; omega)).trans g2; have k3 := (hb4.cell (p := ⟨w.heap.size, 3, none⟩) (by simp; omega)).trans g3; have k4 := (hb4.cell (p := ⟨w.heap.size, 4, none⟩) (by simp; omega)).trans g4; have k5 := (hb4.cell (p := ⟨w.heap.size, 5, none⟩) (by simp; omega)).trans g5) | (go_at_call 14; refine (HFm.out c A z (by simpa using hA)).mono ?_; rintro e x5 ⟨rfl, hb5⟩; have eB5 := eB4.trans (hb5.mono eB4.size); have l0 := (hb5.cell (p := ⟨w.heap.size, 0, none⟩) (by simp; omega)).trans k0) | (go_at_call 15; refine (kindName_prog k _).mono ?_; rintro e x6 ⟨rfl, hb6⟩))
    obtain ⟨b0, o0, eA, hb0, y0, y1, _⟩ := hA.at_ (j := 0) (by omega)
    obtain ⟨b1, o1, eA1, hb1, _, y2, _⟩ := hA.at_ (j := L.length - 2) (by omega)
    rw [eA] at eA1
    obtain ⟨rfl, rfl⟩ : b0 = b1 ∧ o0 = o1 := by injection eA1 with h; injection h with h1 h2; exact ⟨h1, h2⟩
    subst eA
    rw [hLk] at y0
    rw [hLt] at y1
    rw [hLs] at y2
    have hi4 : L ≠ [] := by intro h0; rw [h0] at hL3; simp at hL3
    have hi5 : 0 < L.length := by omega
    have hi6 : 2 ≤ L.length := by omega
    have hi7 : (2 : Int) ≤ (L.length : Int) := by omega
    have hi8 : IntKind.i64.wrap ((L.length : Int) - 2) = (L.length : Int) - 2 := IntWalk.i64_in _ (by omega)
    have hi9 : ((L.length : Int) - 2).toNat = L.length - 2 := by omega
    have hi0 : ¬ ((L.length : Int) - 2 < 0) := by omega
    have hi1 : (L.length : Int) - 2 < (L.length : Int) := by omega
    have hi2 : (0 : Int) ≤ (L.length : Int) - 2 := by omega
    have hi3 : (0 : Int) < (L.length : Int) := by omega
    have r0 := (hb5.cell (p := ⟨b0, o0, none⟩) hb0).trans (by simpa using y0)
    have r1 := (hb5.cell (p := ⟨b0, o0 + 1, none⟩) hb0).trans (by simpa using y1)
    have r2 := (hb5.cell (p := ⟨b0, o0 + (L.length - 2) * 4 + 1, none⟩) hb0).trans y2
    have hbz : b0 < x5.heap.size := Nat.lt_of_lt_of_le hb0 hb5.size
    have eZ5 : w.heap.size < x5.heap.size := Nat.lt_of_lt_of_le eZ4 hb5.size
    clear y0 y1 y2 hA k0 k1 k2 k3 k4 k5 d0 f0 g0 d1 f1 g1 d2 f2 g2 d3 f3 g3 d4 f4 g4 d5 f5 g5 hb2 hb3 hb4 hb5 eB eB2 eB3 eB4 eZ eZ2 eZ3 eZ4 HT HS HFm
    (go_region_held3 (fun X => X.cell? ⟨b0, o0, none⟩ = some (.int .i64 2) ∧ X.cell? ⟨b0, o0 + 1, none⟩ = some (.string (kindName k)) ∧ X.cell? ⟨b0, o0 + (L.length - 2) * 4 + 1, none⟩ = some (.string ⟨#[59]⟩) ∧ X.cell? ⟨w.heap.size, 0, none⟩ = some (.int .i64 k) ∧ x5.heap.size ≤ X.heap.size ∧ Below w.heap.size w X) ((first | (go_keep; done) | (refine ⟨?_, ?_, ?_, ?_, ?_, ?_⟩ <;> (first | assumption | exact eB5.drew | exact r0 | exact r1 | exact r2 | exact l0 | exact Nat.le_refl _)))) ((first | (go_at_call 15; have hH := (by assumption : _ ∧ _ ∧ _ ∧ _ ∧ x5.heap.size ≤ _ ∧ Below w.heap.size w _); obtain ⟨a0, a1, a2, a3, aZ, aB⟩ := hH; refine (kindName_prog k _).mono ?_; rintro e x6 ⟨rfl, hb⟩; have c0 := (hb.cell (p := ⟨b0, o0, none⟩) (by simp; omega)).trans a0; have c1 := (hb.cell (p := ⟨b0, o0 + 1, none⟩) (by simp; omega)).trans a1; have c2 := (hb.cell (p := ⟨b0, o0 + (L.length - 2) * 4 + 1, none⟩) (by simp; omega)).trans a2; have c3 := (hb.cell (p := ⟨w.heap.size, 0, none⟩) (by simp; omega)).trans a3; have cZ := Nat.le_trans aZ hb.size; have cB := aB.trans (hb.mono aB.size); clear a0 a1 a2 a3 aZ aB hb))))
    all_goals
      go_wp2_with fail
      go_ret
      exact ⟨rfl, by first | exact cB | exact eB5.drew | exact eB5⟩
end Go.Proofs.YtanhkeeifnimgaaGreatDoor
