/- The walk of exoduslaw18.ParserValid: it answers true. Conditions: the tables are laid; lengths that fit memory. -/
import Derived.Test.YtanhkeeifnimgaaGreatDoorLaw18t
namespace Go.Proofs.YtanhkeeifnimgaaGreatDoor
open Go Go.RowKit Go.Proofs

theorem format_dv (A : Option Addr) (c : Nat) (L : List DV) (w : World) (ha : Asc w) (hp : Pow w) (h : DRow w w.heap.size A L) (hl : L.length ≤ 65536) :
    Calls Tryz.prog 20 #[.slice A L.length c] w fun e w' => e = .returned (.string (S (formatL (L.map (·.1))))) ∧ Below w.heap.size w w' := by
  have := format_prog A c (L.map (·.1)) w ha hp h.decls (by simpa using hl)
  rwa [List.length_map] at this
theorem parse_size {s : ByteArray} {l : List Decl} {p : Int} (h : parseT s = (l, p, 0)) : s.size ≤ 9223372036854775807 := by
  unfold parseT at h
  split at h
  · rename_i he
    exact absurd (congrArg (·.2.2) h) he
  · rename_i he
    have he := Decidable.not_not.1 he
    have e : scanT s = ((scanT s).1, (scanT s).2.1, 0) := by rw [← he]
    have := (scan_facts e).2.2.2.2.2.1
    omega
theorem decl_at {w : World} {B : Nat} {A : Option Addr} {L : List DV} (h : DRow w B A L) {i : Nat} (hi : i < L.length) :
    ∃ d b off ra rc na nc, d ∈ L.map (·.1) ∧ A = some ⟨b, off, none⟩ ∧ b < B ∧ w.cell? ⟨b, off + i * 6, none⟩ = some (.int .i64 d.kind) ∧ w.cell? ⟨b, off + i * 6 + 1, none⟩ = some (.string d.name) ∧ w.cell? ⟨b, off + i * 6 + 2, none⟩ = some (.slice ra d.refs.length rc) ∧
      w.cell? ⟨b, off + i * 6 + 3, none⟩ = some (.slice na d.nums.length nc) ∧ w.cell? ⟨b, off + i * 6 + 4, none⟩ = some (.int .i64 d.by_) ∧ w.cell? ⟨b, off + i * 6 + 5, none⟩ = some (.bool d.always) ∧ Strs w B ra d.refs ∧ Ints w B na d.nums ∧ Fine d := by
  have hi2 : i < (L.map (·.1)).length := by simpa using hi
  obtain ⟨b, off, ra, rc, na, nc, e, hb, y0, y1, y2, y3, y4, y5, _, hr, hn, hf⟩ := h.decls.at2_ hi2
  exact ⟨_, b, off, ra, rc, na, nc, List.getElem_mem hi2, e, hb, y0, y1, y2, y3, y4, y5, hr, hn, hf⟩

set_option maxRecDepth 100000 in
set_option maxHeartbeats 4000000 in
theorem parserValid_walk (s : ByteArray) (w : World) (ha : Asc w) (hp : Pow w) (hs : s.size ≤ 9223372036854775807) :
    Calls Tryz.prog 7 #[.string s] w fun e w' => e = .returned (.bool true) ∧ Below w.heap.size w w' := by
  have HW := hide (awake18 w ha)
  have HA := hide ha
  have HP := hide hp
  clear ha hp
  by_cases hbig : 5000 < s.size
  · have hbI : (5000 : Int) < (s.size : Int) := by omega
    go_enter Tryz.func7, Tryz.ntmps7
    go_wp2_with (go_at_call 16; refine HW.out.mono ?_; rintro e w1 ⟨rfl, hb1⟩)
    go_ret
    exact ⟨rfl, hb1⟩
  have hbI : ¬ (5000 : Int) < (s.size : Int) := by omega
  have HPS := fun (X : World) (hX : Asc X) => parse_any s X hX hs
  have hpv := fun l p => parse_valid (s := s) (l := l) (p := p) (by omega)
  have hpe := fun l p e => parseT_err (s := s) (l := l) (p := p) (e := e)
  generalize parseT s = r at HPS hpv hpe
  obtain ⟨l, p, er⟩ := r
  have HPS := hide HPS
  by_cases her : er = 0
  rotate_left
  · obtain rfl := hpe l p er her rfl
    have b0 : ((er : Int) != 0) = true := by simpa using her
    clear hpv hpe her
    go_enter Tryz.func7, Tryz.ntmps7
    go_wp2_with (first
      | (go_at_call 16; refine HW.out.mono ?_; rintro e w1 ⟨rfl, hb1⟩)
      | (go_at_call 21; refine (HPS.out _ (Asc.below HA.out (Nat.le_refl _) hb1)).mono ?_; rintro e w2 ⟨A2, c2, L2, rfl, hL2, hc2, hD2, hb2⟩
         obtain rfl : L2 = [] := (by simpa using hL2)))
    go_ret
    exact ⟨rfl, hb1.trans (hb2.mono hb1.size)⟩
  · subst her
    obtain ⟨hok, hrt, hlen⟩ := hpv l p rfl
    have hfl : formatL l = cat l := by unfold formatL; rw [if_pos hok]
    have hcz : (S (cat l)).size ≤ 9223372036854775807 := parse_size hrt
    have HP2 := fun (X : World) (hX : Asc X) => parse_any (S (cat l)) X hX hcz
    rw [hrt] at HP2
    have HP2 := hide HP2
    have HOK := hide (List.all_eq_true.1 hok)
    have HFL := hide hfl
    clear hpv hpe hrt hok hfl hcz
    go_enter Tryz.func7, Tryz.ntmps7
    go_wp2_with (first
      | (go_at_call 16; refine HW.out.mono ?_; rintro e w1 ⟨rfl, hb1⟩)
      | (go_at_call 21; refine (HPS.out _ (Asc.below HA.out (Nat.le_refl _) hb1)).mono ?_; rintro e w2 ⟨A2, c2, L2, rfl, hL2, hc2, hD2, hb2⟩
         have hb12 := hb1.trans (hb2.mono hb1.size)))
    have hln : L2.length ≤ 1024 := by have := congrArg List.length hL2; simp at this; omega
    have HD := hide hD2
    clear hD2 hb1 hb2 HW HPS
    go_loopw [6] (fun i wr => ∃ k : Nat, i = .int .i64 k ∧ k ≤ L2.length ∧ Below w.heap.size w wr ∧ Below w2.heap.size w2 wr) (fun i _ => L2.length - (intOf i).toNat)
    case atStart => exact ⟨0, rfl, Nat.zero_le _, hb12, Below.refl _ _⟩
    case round =>
      clear hb12
      obtain ⟨k, rfl, hk, hB, hB2⟩ := hrel
      by_cases hlt : k < L2.length
      · have hdat := decl_at ((HD.out.below hB2).more hB2.size) hlt
        obtain ⟨d, b, off, ra, rc, na, nc, hmem, rfl, hb, y0, y1, y2, y3, y4, y5, hr, hn, hfine⟩ := hdat
        have HV := valid_at d ra rc na nc wr hfine hr hn
        rw [HOK.out d (hL2 ▸ hmem)] at HV
        have HV := hide HV
        clear hr hn hfine hmem
        go_wp2_with (go_at_call 9; refine HV.out.mono ?_; rintro e w3 ⟨rfl, hb3⟩)
        go_roundw
        case rel => exact ⟨k + 1, by go_num, by omega, hB.trans (hb3.mono hB.size), hB2.trans (hb3.mono hB2.size)⟩
        case measure => simp [intOf]; omega
      · have hkI : ¬ (k : Int) < (L2.length : Int) := by omega
        have HF := format_dv A2 c2 L2 wr (Asc.below HA.out (Nat.le_refl _) hB) (Pow.below HP.out (Nat.le_refl _) hB) ((HD.out.below hB2).more hB2.size) (by omega)
        rw [hL2, HFL.out] at HF
        have HF := hide HF
        generalize S (cat l) = s2 at HF HP2
        have HL2 := hide hL2
        clear hL2
        go_wp2_with (first
          | (go_at_call 20; refine HF.out.mono ?_; rintro e w3 ⟨rfl, hb3⟩; have hb13 := hB.trans (hb3.mono hB.size); have hb23 := hB2.trans (hb3.mono hB2.size))
          | (go_at_call 21; refine (HP2.out _ (Asc.below HA.out (Nat.le_refl _) hb13)).mono ?_; rintro e w4 ⟨A4, c4, L4, rfl, hL4, hc4, hD4, hb4⟩
             have hb14 := hb13.trans (hb4.mono hb13.size)
             have hb24 := hb23.trans (hb4.mono hb23.size)
             have hln4 : L4.length ≤ 9223372036854775807 := (by have h1 := congrArg List.length hL4; have h2 := congrArg List.length HL2.out; simp at h1 h2; omega)
             have hd2 := ((HD.out.below hb24).more hb24.size).decls
             have hsm := same_dv A4 A2 c4 c2 L4 (L2.map (·.1)) (n := L2.length) (by simp) w4 hD4 hd2 hln4 (by omega)
             rw [hL4, HL2.out] at hsm
             simp only [sameL_refl2] at hsm
             have HSM := hide hsm
             clear hsm hd2 hL4 hD4)
          | (go_at_call 22; refine HSM.out.mono ?_; rintro e w5 ⟨rfl, hb5⟩))
        go_ret
        exact ⟨rfl, hb14.trans (hb5.mono hb14.size)⟩
end Go.Proofs.YtanhkeeifnimgaaGreatDoor
