/- The walk of exoduslaw18.ParserPlaces: it answers true. Conditions: the table of spaces is laid; lengths that fit memory. -/
import Derived.Test.YtanhkeeifnimgaaDoorAw18
import Derived.Test.YtanhkeeifnimgaaDoorRef16u
namespace Go.Proofs.YtanhkeeifnimgaaDoor
open Go Go.RowKit Go.Proofs

set_option maxRecDepth 100000 in
set_option maxHeartbeats 4000000 in
theorem parserPlaces_walk (s : ByteArray) (w : World) (ha : Asc w) (hs : s.size ≤ 9223372036854775807) :
    Calls Tryd.prog 4 #[.string s] w fun e w' => e = .returned (.bool true) ∧ Below w.heap.size w w' := by
  have HW := hide (awake18 w ha)
  have HA := hide ha
  clear ha
  by_cases hbig : 5000 < s.size
  · have hbI : (5000 : Int) < (s.size : Int) := by omega
    go_enter Tryd.func4, Tryd.ntmps4
    go_wp2_with (go_at_call 10; refine HW.out.mono ?_; rintro e w1 ⟨rfl, hb1⟩)
    go_ret
    exact ⟨rfl, hb1⟩
  have hbI : ¬ (5000 : Int) < (s.size : Int) := by omega
  have HPS := fun (X : World) (hX : Asc X) => parse_any s X hX hs
  have HSC := fun (X : World) => scan_ref s X (by omega)
  have hpl := fun l p e => parseT_place (s := s) (l := l) (p := p) (e := e)
  have hun : (scanT s).2.2 ≠ 0 → parseT s = ([], (scanT s).2.1, (scanT s).2.2) := fun h => by unfold parseT; rw [if_pos h]
  have hsh := fun h => (scan_short (s := s) h).2.1
  generalize parseT s = r at HPS hpl hun
  generalize scanT s = q at HSC hpl hun hsh
  obtain ⟨l, p, er⟩ := r
  obtain ⟨L, pos, fr⟩ := q
  simp only at hpl hun hsh
  have HPS := hide HPS
  have HSC := hide HSC
  by_cases hfr : fr = 0
  rotate_left
  · have h := hun hfr
    simp only [Prod.mk.injEq] at h
    obtain ⟨rfl, rfl, rfl⟩ := h
    have b0 : ((er : Int) != 0) = true := by simpa using hfr
    clear hpl hun hfr hsh
    go_enter Tryd.func4, Tryd.ntmps4
    go_wp2_with fail
    refine HW.out.mono ?_
    rintro e w1 ⟨rfl, hb1⟩
    go_wp2_with fail
    refine (HPS.out _ (Asc.below HA.out (Nat.le_refl _) hb1)).mono ?_
    rintro e w2 ⟨A2, c2, L2, rfl, hL2, hc2, hD2, hb2⟩
    go_wp2_with fail
    refine (HSC.out w2).mono ?_
    rintro e w3 ⟨A3, c3, rfl, hc3, hT3, hb3⟩
    have hb := hide (hb1.trans ((hb2.mono hb1.size).trans (hb3.mono (Nat.le_trans hb1.size hb2.size))))
    clear hL2 hD2 hT3 hb1 hb2 hb3 HW HPS HSC
    go_wp2_with fail
    go_ret
    exact ⟨by first | rfl | exact ret_congr (by simp), hb.out⟩
  · subst hfr
    have hmem : er ≠ 0 → ∃ t ∈ L, t.pos = p := fun h => (hpl l p er h rfl).2 rfl
    have hshort := hsh rfl
    clear hpl hun hsh
    go_enter Tryd.func4, Tryd.ntmps4
    go_wp2_with fail
    refine HW.out.mono ?_
    rintro e w1 ⟨rfl, hb1⟩
    go_wp2_with fail
    refine (HPS.out _ (Asc.below HA.out (Nat.le_refl _) hb1)).mono ?_
    rintro e w2 ⟨A2, c2, L2, rfl, hL2, hc2, hD2, hb2⟩
    go_wp2_with fail
    refine (HSC.out w2).mono ?_
    rintro e w3 ⟨A3, c3, rfl, hc3, hT3, hb3⟩
    have hb := hide (hb1.trans ((hb2.mono hb1.size).trans (hb3.mono (Nat.le_trans hb1.size hb2.size))))
    have hln : L.length ≤ 9223372036854775807 := by omega
    have HT3 := hide hT3
    clear hL2 hD2 hT3 hb1 hb2 hb3 HW HPS HSC
    go_wp2_with fail
    go_loopw [9] (fun v wr => ∃ k : Nat, v = .int .i64 k ∧ k ≤ L.length ∧ wr = w3 ∧ Hid (∀ j (hj : j < L.length), j < k → L[j].pos ≠ p)) (fun v _ => L.length - (intOf v).toNat)
    case atStart => exact ⟨0, rfl, Nat.zero_le _, by simp, hide fun j hj h0 => absurd h0 (by omega)⟩
    case round =>
      obtain ⟨k, rfl, hk, rfl, hno⟩ := hrel
      by_cases hlt : k < L.length
      · obtain ⟨b, off, rfl, hbb, y0, y1, y2, y3⟩ := HT3.out.at_ hlt
        have hkI : (k : Int) < (L.length : Int) := by omega
        generalize hu : L[k] = u at y0 y1 y2 y3
        by_cases hp : u.pos = p
        · have b1 : ((u.pos : Int) == p) = true := by simp [hp]
          clear hu hp hmem hno
          go_wp2_with fail
          go_ret
          exact ⟨rfl, hb.out⟩
        · have b1 : ((u.pos : Int) == p) = false := by simpa using hp
          have HN := hide (show L[k].pos ≠ p by rw [hu]; exact hp)
          clear hu hp
          go_wp2_with fail
          go_roundw
          case rel => exact ⟨k + 1, by go_num, by omega, by simp, hide fun j hj h1 => by
            rcases Nat.lt_or_ge j k with h2 | h2
            · exact hno.out j hj h2
            · obtain rfl : j = k := by omega
              exact HN.out⟩
          case measure => simp [intOf]; omega
      · have hkI : ¬ (k : Int) < (L.length : Int) := by omega
        have her : er = 0 := Classical.byContradiction fun h => by
          obtain ⟨t, ht, e⟩ := hmem h
          obtain ⟨j, hj, rfl⟩ := List.getElem_of_mem ht
          exact hno.out j hj (by omega) e
        subst her
        clear hmem hno
        go_wp2_with fail
        go_ret
        exact ⟨by first | rfl | exact ret_congr (by simp), hb.out⟩
end Go.Proofs.YtanhkeeifnimgaaDoor
