/- The walk of exodusref17.Same. Conditions: lengths that fit memory. -/
import Derived.Test.YtanhkeeifnimgaaDoorRef17e
namespace Go.Proofs.YtanhkeeifnimgaaDoor
open Go Go.RowKit Go.Proofs

set_option maxRecDepth 100000 in
set_option maxHeartbeats 4000000 in
theorem same_ref (A1 A2 : Option Addr) (c1 c2 : Nat) (l m : List Decl) (w : World) (h1 : Decls w w.heap.size A1 l) (h2 : Decls w w.heap.size A2 m) (hl : l.length ≤ 9223372036854775807) (_hm : m.length ≤ 9223372036854775807) :
    Calls Tryd.prog 12 #[.slice A1 l.length c1, .slice A2 m.length c2] w fun e w' => e = .returned (.bool (sameL l m)) ∧ Below w.heap.size w w' := by
  by_cases hlen : l.length = m.length
  rotate_left
  · have HS := hide (sameL_len l m hlen)
    have hne : ((l.length : Int) == (m.length : Int)) = false := by simp; omega
    have hne2 : ((l.length : Int) != (m.length : Int)) = true := by simp [bne, hne]
    go_enter Tryd.func12, Tryd.ntmps12
    go_wp2
    go_ret
    exact ⟨ret_congr (by rw [HS.out]; rfl), Below.refl _ _⟩
  · have HL := hide hlen
    have hne2 : ((l.length : Int) != (m.length : Int)) = false := by simp [bne, hlen]
    clear hlen
    go_enter Tryd.func12, Tryd.ntmps12
    go_wp2_with fail
    go_loopw [5] (fun i wr => ∃ k : Nat, k ≤ l.length ∧ i = .int .i64 k ∧ Below w.heap.size w wr ∧ Hid (∀ j (q1 : j < l.length) (q2 : j < m.length), j < k → sameD l[j] m[j] = true)) (fun i _ => l.length - (intOf i).toNat)
    case atStart => exact ⟨0, Nat.zero_le _, rfl, Below.refl _ _, fun j _ _ h0 => absurd h0 (by omega)⟩
    case round =>
      obtain ⟨k, hk, rfl, hbr, hs⟩ := hrel
      by_cases hlt : k < l.length
      · have hlt2 : k < m.length := by rw [← HL.out]; exact hlt
        have hltI : (k : Int) < (l.length : Int) := by omega
        have hlt2I : (k : Int) < (m.length : Int) := by omega
        obtain ⟨b1, o1, ra, rc, na, nc, rfl, hb1, x0, x1, x2, x3, x4, x5, _, hr, hn, hf⟩ := h1.at_ hlt
        replace x0 := (hbr.cell (p := ⟨b1, o1 + k * 6, none⟩) hb1).trans x0
        replace x1 := (hbr.cell (p := ⟨b1, o1 + k * 6 + 1, none⟩) hb1).trans x1
        replace x2 := (hbr.cell (p := ⟨b1, o1 + k * 6 + 2, none⟩) hb1).trans x2
        replace x3 := (hbr.cell (p := ⟨b1, o1 + k * 6 + 3, none⟩) hb1).trans x3
        replace x4 := (hbr.cell (p := ⟨b1, o1 + k * 6 + 4, none⟩) hb1).trans x4
        replace x5 := (hbr.cell (p := ⟨b1, o1 + k * 6 + 5, none⟩) hb1).trans x5
        obtain ⟨b2, o2, ra', rc', na', nc', rfl, hb2, y0, y1, y2, y3, y4, y5, _, hr', hn', hf'⟩ := h2.at_ hlt2
        replace y0 := (hbr.cell (p := ⟨b2, o2 + k * 6, none⟩) hb2).trans y0
        replace y1 := (hbr.cell (p := ⟨b2, o2 + k * 6 + 1, none⟩) hb2).trans y1
        replace y2 := (hbr.cell (p := ⟨b2, o2 + k * 6 + 2, none⟩) hb2).trans y2
        replace y3 := (hbr.cell (p := ⟨b2, o2 + k * 6 + 3, none⟩) hb2).trans y3
        replace y4 := (hbr.cell (p := ⟨b2, o2 + k * 6 + 4, none⟩) hb2).trans y4
        replace y5 := (hbr.cell (p := ⟨b2, o2 + k * 6 + 5, none⟩) hb2).trans y5
        have hb1' : b1 < wr.heap.size := Nat.lt_of_lt_of_le hb1 hbr.size
        have hb2' : b2 < wr.heap.size := Nat.lt_of_lt_of_le hb2 hbr.size
        have HC : ∀ X, Below w.heap.size w X → Calls Tryd.prog 31 #[.agg #[.int .i64 l[k].kind, .string l[k].name, .slice ra l[k].refs.length rc, .slice na l[k].nums.length nc, .int .i64 l[k].by_, .bool l[k].always], .agg #[.int .i64 m[k].kind, .string m[k].name, .slice ra' m[k].refs.length rc', .slice na' m[k].nums.length nc', .int .i64 m[k].by_, .bool m[k].always]] X
            fun e w' => e = .returned (.bool (sameD l[k] m[k])) ∧ Below X.heap.size X w' := by
          intro X hX
          exact sameDecl_ref l[k] m[k] ra rc na nc ra' rc' na' nc' X ((hr.below hX).more hX.size) ((hn.below hX).more hX.size) ((hr'.below hX).more hX.size) ((hn'.below hX).more hX.size) hf hf'
        cases hsm : sameD l[k] m[k]
        · have HS := hide (sameL_false l m k hlt hlt2 hsm)
          rw [hsm] at HC
          have HC := hide HC
          have HSM := hide hsm
          go_wp2_with fail
          go_region_held3 (fun X => X.cell? ⟨b1, o1 + k * 6, none⟩ = some (.int .i64 l[k].kind) ∧ X.cell? ⟨b1, o1 + k * 6 + 1, none⟩ = some (.string l[k].name) ∧ X.cell? ⟨b1, o1 + k * 6 + 2, none⟩ = some (.slice ra l[k].refs.length rc) ∧ X.cell? ⟨b1, o1 + k * 6 + 3, none⟩ = some (.slice na l[k].nums.length nc) ∧ X.cell? ⟨b1, o1 + k * 6 + 4, none⟩ = some (.int .i64 l[k].by_) ∧ X.cell? ⟨b1, o1 + k * 6 + 5, none⟩ = some (.bool l[k].always) ∧ X.cell? ⟨b2, o2 + k * 6, none⟩ = some (.int .i64 m[k].kind) ∧ X.cell? ⟨b2, o2 + k * 6 + 1, none⟩ = some (.string m[k].name) ∧ X.cell? ⟨b2, o2 + k * 6 + 2, none⟩ = some (.slice ra' m[k].refs.length rc') ∧ X.cell? ⟨b2, o2 + k * 6 + 3, none⟩ = some (.slice na' m[k].nums.length nc') ∧ X.cell? ⟨b2, o2 + k * 6 + 4, none⟩ = some (.int .i64 m[k].by_) ∧ X.cell? ⟨b2, o2 + k * 6 + 5, none⟩ = some (.bool m[k].always) ∧ b1 < X.heap.size ∧ b2 < X.heap.size ∧ Below w.heap.size w X) ((first | (go_keep; done) | (refine ⟨?_, ?_, ?_, ?_, ?_, ?_, ?_, ?_, ?_, ?_, ?_, ?_, ?_, ?_, ?_⟩ <;> (first | assumption | exact hbr.drew | (simp; done))))) ((go_at_call 31; have hH := (by assumption : _ ∧ _ ∧ _ ∧ _ ∧ _ ∧ _ ∧ _ ∧ _ ∧ _ ∧ _ ∧ _ ∧ _ ∧ b1 < _ ∧ b2 < _ ∧ Below w.heap.size w _); obtain ⟨a0, a1, a2, a3, a4, a5, g0, g1, g2, g3, g4, g5, z1, z2, hS⟩ := hH; refine (HC.out _ hS).mono ?_; rintro e w3 ⟨rfl, hb⟩; have c0 := (hb.cell (p := ⟨b1, o1 + k * 6, none⟩) z1).trans a0; have e0 := (hb.cell (p := ⟨b2, o2 + k * 6, none⟩) z2).trans g0; have c1 := (hb.cell (p := ⟨b1, o1 + k * 6 + 1, none⟩) z1).trans a1; have e1 := (hb.cell (p := ⟨b2, o2 + k * 6 + 1, none⟩) z2).trans g1; have c2 := (hb.cell (p := ⟨b1, o1 + k * 6 + 2, none⟩) z1).trans a2; have e2 := (hb.cell (p := ⟨b2, o2 + k * 6 + 2, none⟩) z2).trans g2; have c3 := (hb.cell (p := ⟨b1, o1 + k * 6 + 3, none⟩) z1).trans a3; have e3 := (hb.cell (p := ⟨b2, o2 + k * 6 + 3, none⟩) z2).trans g3; have c4 := (hb.cell (p := ⟨b1, o1 + k * 6 + 4, none⟩) z1).trans a4; have e4 := (hb.cell (p := ⟨b2, o2 + k * 6 + 4, none⟩) z2).trans g4; have c5 := (hb.cell (p := ⟨b1, o1 + k * 6 + 5, none⟩) z1).trans a5; have e5 := (hb.cell (p := ⟨b2, o2 + k * 6 + 5, none⟩) z2).trans g5; have v1 := Nat.lt_of_lt_of_le z1 hb.size; have v2 := Nat.lt_of_lt_of_le z2 hb.size; have hS1 := hS.trans (hb.mono hS.size); clear a0 a1 a2 a3 a4 a5 g0 g1 g2 g3 g4 g5 z1 z2 hS hb))
          all_goals
            go_wp2_with fail
            go_ret
            exact ⟨ret_congr (by rw [HS.out]; rfl), hS1⟩
        · rw [hsm] at HC
          have HC := hide HC
          have HSM := hide hsm
          go_wp2_with fail
          go_region_held3 (fun X => X.cell? ⟨b1, o1 + k * 6, none⟩ = some (.int .i64 l[k].kind) ∧ X.cell? ⟨b1, o1 + k * 6 + 1, none⟩ = some (.string l[k].name) ∧ X.cell? ⟨b1, o1 + k * 6 + 2, none⟩ = some (.slice ra l[k].refs.length rc) ∧ X.cell? ⟨b1, o1 + k * 6 + 3, none⟩ = some (.slice na l[k].nums.length nc) ∧ X.cell? ⟨b1, o1 + k * 6 + 4, none⟩ = some (.int .i64 l[k].by_) ∧ X.cell? ⟨b1, o1 + k * 6 + 5, none⟩ = some (.bool l[k].always) ∧ X.cell? ⟨b2, o2 + k * 6, none⟩ = some (.int .i64 m[k].kind) ∧ X.cell? ⟨b2, o2 + k * 6 + 1, none⟩ = some (.string m[k].name) ∧ X.cell? ⟨b2, o2 + k * 6 + 2, none⟩ = some (.slice ra' m[k].refs.length rc') ∧ X.cell? ⟨b2, o2 + k * 6 + 3, none⟩ = some (.slice na' m[k].nums.length nc') ∧ X.cell? ⟨b2, o2 + k * 6 + 4, none⟩ = some (.int .i64 m[k].by_) ∧ X.cell? ⟨b2, o2 + k * 6 + 5, none⟩ = some (.bool m[k].always) ∧ b1 < X.heap.size ∧ b2 < X.heap.size ∧ Below w.heap.size w X) ((first | (go_keep; done) | (refine ⟨?_, ?_, ?_, ?_, ?_, ?_, ?_, ?_, ?_, ?_, ?_, ?_, ?_, ?_, ?_⟩ <;> (first | assumption | exact hbr.drew | (simp; done))))) ((go_at_call 31; have hH := (by assumption : _ ∧ _ ∧ _ ∧ _ ∧ _ ∧ _ ∧ _ ∧ _ ∧ _ ∧ _ ∧ _ ∧ _ ∧ b1 < _ ∧ b2 < _ ∧ Below w.heap.size w _); obtain ⟨a0, a1, a2, a3, a4, a5, g0, g1, g2, g3, g4, g5, z1, z2, hS⟩ := hH; refine (HC.out _ hS).mono ?_; rintro e w3 ⟨rfl, hb⟩; have c0 := (hb.cell (p := ⟨b1, o1 + k * 6, none⟩) z1).trans a0; have e0 := (hb.cell (p := ⟨b2, o2 + k * 6, none⟩) z2).trans g0; have c1 := (hb.cell (p := ⟨b1, o1 + k * 6 + 1, none⟩) z1).trans a1; have e1 := (hb.cell (p := ⟨b2, o2 + k * 6 + 1, none⟩) z2).trans g1; have c2 := (hb.cell (p := ⟨b1, o1 + k * 6 + 2, none⟩) z1).trans a2; have e2 := (hb.cell (p := ⟨b2, o2 + k * 6 + 2, none⟩) z2).trans g2; have c3 := (hb.cell (p := ⟨b1, o1 + k * 6 + 3, none⟩) z1).trans a3; have e3 := (hb.cell (p := ⟨b2, o2 + k * 6 + 3, none⟩) z2).trans g3; have c4 := (hb.cell (p := ⟨b1, o1 + k * 6 + 4, none⟩) z1).trans a4; have e4 := (hb.cell (p := ⟨b2, o2 + k * 6 + 4, none⟩) z2).trans g4; have c5 := (hb.cell (p := ⟨b1, o1 + k * 6 + 5, none⟩) z1).trans a5; have e5 := (hb.cell (p := ⟨b2, o2 + k * 6 + 5, none⟩) z2).trans g5; have v1 := Nat.lt_of_lt_of_le z1 hb.size; have v2 := Nat.lt_of_lt_of_le z2 hb.size; have hS1 := hS.trans (hb.mono hS.size); clear a0 a1 a2 a3 a4 a5 g0 g1 g2 g3 g4 g5 z1 z2 hS hb))
          all_goals
            go_wp2_with fail
            go_roundw
            case rel => exact ⟨k + 1, by omega, by go_num, hS1, fun j q1 q2 h1 => by
              rcases Nat.lt_or_ge j k with h2 | h2
              · exact hs j q1 q2 h2
              · obtain rfl : j = k := by omega
                exact HSM⟩
            case measure => simp [intOf]; omega
      · have HS := hide (sameL_true l m HL.out fun j q1 q2 => hs j q1 q2 (by omega))
        go_wp2_with fail
        go_ret
        exact ⟨ret_congr (by rw [HS.out]; rfl), hbr⟩
end Go.Proofs.YtanhkeeifnimgaaDoor
