/- The walks of exodusref17.body, one a kind. Printed by wip/gen_body.py. Conditions: lengths of a valid declaration. -/
import Derived.Test.YtanhkeeifnimgaaDoorRef17h
import Derived.Test.YtanhkeeifnimgaaDoorText17
import Derived.Test.YtanhkeeifnimgaaDoorRef17d
namespace Go.Proofs.YtanhkeeifnimgaaDoor
open Go Go.RowKit Go.Proofs

theorem numOk_le {n : Int} (h : numOk n = true) : 0 ≤ n ∧ n ≤ 1048576 := by simpa [numOk] using h
theorem newRow2 (w : World) {b : Nat} (t : TypeId) (l : List ByteArray) (hb : b = w.heap.size) : Strs (w.alloc (.cells (l.map Value.string).toArray t)) (w.heap.size + 1) (some ⟨b, 0, none⟩) l := by
  subst hb; exact Strs.newRow w t l
theorem clsW_small {n : Int} (h1 : 1 ≤ n) (h7 : n ≤ 7) : (clsW n.toNat).length ≤ 1000 ∧ ∀ s ∈ clsW n.toNat, s.size ≤ 1000 := by
  have : n = 1 ∨ n = 2 ∨ n = 3 ∨ n = 4 ∨ n = 5 ∨ n = 6 ∨ n = 7 := by omega
  rcases this with rfl | rfl | rfl | rfl | rfl | rfl | rfl <;> decide
theorem itoaS_len {n : Int} (h : numOk n = true) : (itoaS n).size ≤ 1000 := itoaS_small h

def unitT (n0 n1 n2 : Int) : ByteArray := (⟨#[32, 108, 111, 97, 100, 32]⟩ : ByteArray) ++ itoaS n0 ++ (⟨#[32, 115, 105, 122, 101, 32]⟩ : ByteArray) ++ itoaS n1 ++ (⟨#[32, 115, 104, 97, 114, 101, 32]⟩ : ByteArray) ++ itoaS n2
set_option maxRecDepth 100000 in
set_option maxHeartbeats 2000000 in
theorem unit_ref (na : Option Addr) (n0 n1 n2 : Int) (nc : Nat) (w : World) (hn : Ints w w.heap.size na [n0, n1, n2]) (k0 : numOk n0 = true) (k1 : numOk n1 = true) (k2 : numOk n2 = true) :
    Calls Tryd.prog 99 #[.slice na 3 nc] w fun e w' => e = .returned (.string (unitT n0 n1 n2)) ∧ Below w.heap.size w w' := by
  have HU := hide (show unitT n0 n1 n2 = (⟨#[32, 108, 111, 97, 100, 32]⟩ : ByteArray) ++ itoaS n0 ++ (⟨#[32, 115, 105, 122, 101, 32]⟩ : ByteArray) ++ itoaS n1 ++ (⟨#[32, 115, 104, 97, 114, 101, 32]⟩ : ByteArray) ++ itoaS n2 from rfl)
  have z0 := itoaS_len k0
  have l0 := numOk_le k0
  have z1 := itoaS_len k1
  have l1 := numOk_le k1
  have z2 := itoaS_len k2
  have l2 := numOk_le k2
  obtain ⟨b2, o2, rfl, hb2, hc2⟩ := hn.form (by simp)
  have y0 := hc2 0 (by simp)
  simp at y0
  have y1 := hc2 1 (by simp)
  simp at y1
  have y2 := hc2 2 (by simp)
  simp at y2
  clear hc2 hn k0 k1 k2
  have eB : Below w.heap.size w w := Below.refl _ _
  have hz9 : ((⟨#[32, 108, 111, 97, 100, 32]⟩ : ByteArray) : ByteArray).size ≤ 6 := Nat.le_refl _
  have q1 : ∀ W, (Op.stringOp .add ((⟨#[32, 108, 111, 97, 100, 32]⟩ : ByteArray)) (itoaS n0)).run Tryd.prog W = .ok (.string ((⟨#[32, 108, 111, 97, 100, 32]⟩ : ByteArray) ++ itoaS n0)) W := fun W => run_string_add_sum W _ _ (by first | omega | (simp only [ByteArray.size_append]; omega))
  have hz2 : ((⟨#[32, 115, 105, 122, 101, 32]⟩ : ByteArray) : ByteArray).size ≤ 6 := Nat.le_refl _
  have q3 : ∀ W, (Op.stringOp .add ((⟨#[32, 108, 111, 97, 100, 32]⟩ : ByteArray) ++ itoaS n0) (⟨#[32, 115, 105, 122, 101, 32]⟩ : ByteArray)).run Tryd.prog W = .ok (.string ((⟨#[32, 108, 111, 97, 100, 32]⟩ : ByteArray) ++ itoaS n0 ++ (⟨#[32, 115, 105, 122, 101, 32]⟩ : ByteArray))) W := fun W => run_string_add_sum W _ _ (by first | omega | (simp only [ByteArray.size_append]; omega))
  have q5 : ∀ W, (Op.stringOp .add ((⟨#[32, 108, 111, 97, 100, 32]⟩ : ByteArray) ++ itoaS n0 ++ (⟨#[32, 115, 105, 122, 101, 32]⟩ : ByteArray)) (itoaS n1)).run Tryd.prog W = .ok (.string ((⟨#[32, 108, 111, 97, 100, 32]⟩ : ByteArray) ++ itoaS n0 ++ (⟨#[32, 115, 105, 122, 101, 32]⟩ : ByteArray) ++ itoaS n1)) W := fun W => run_string_add_sum W _ _ (by first | omega | (simp only [ByteArray.size_append]; omega))
  have hz6 : ((⟨#[32, 115, 104, 97, 114, 101, 32]⟩ : ByteArray) : ByteArray).size ≤ 7 := Nat.le_refl _
  have q7 : ∀ W, (Op.stringOp .add ((⟨#[32, 108, 111, 97, 100, 32]⟩ : ByteArray) ++ itoaS n0 ++ (⟨#[32, 115, 105, 122, 101, 32]⟩ : ByteArray) ++ itoaS n1) (⟨#[32, 115, 104, 97, 114, 101, 32]⟩ : ByteArray)).run Tryd.prog W = .ok (.string ((⟨#[32, 108, 111, 97, 100, 32]⟩ : ByteArray) ++ itoaS n0 ++ (⟨#[32, 115, 105, 122, 101, 32]⟩ : ByteArray) ++ itoaS n1 ++ (⟨#[32, 115, 104, 97, 114, 101, 32]⟩ : ByteArray))) W := fun W => run_string_add_sum W _ _ (by first | omega | (simp only [ByteArray.size_append]; omega))
  have q9 : ∀ W, (Op.stringOp .add ((⟨#[32, 108, 111, 97, 100, 32]⟩ : ByteArray) ++ itoaS n0 ++ (⟨#[32, 115, 105, 122, 101, 32]⟩ : ByteArray) ++ itoaS n1 ++ (⟨#[32, 115, 104, 97, 114, 101, 32]⟩ : ByteArray)) (itoaS n2)).run Tryd.prog W = .ok (.string ((⟨#[32, 108, 111, 97, 100, 32]⟩ : ByteArray) ++ itoaS n0 ++ (⟨#[32, 115, 105, 122, 101, 32]⟩ : ByteArray) ++ itoaS n1 ++ (⟨#[32, 115, 104, 97, 114, 101, 32]⟩ : ByteArray) ++ itoaS n2)) W := fun W => run_string_add_sum W _ _ (by first | omega | (simp only [ByteArray.size_append]; omega))
  go_enter Tryd.func99, Tryd.ntmps99
  go_wp2_with fail
  go_region_held3 (fun X => X.cell? ⟨b2, o2, none⟩ = some (.int .i64 n0) ∧ X.cell? ⟨b2, o2 + 1, none⟩ = some (.int .i64 n1) ∧ X.cell? ⟨b2, o2 + 2, none⟩ = some (.int .i64 n2) ∧ Below w.heap.size w X) ((first | (go_keep; done) | (refine ⟨?_, ?_, ?_, ?_⟩ <;> (first | assumption | exact eB.drew | exact y0 | exact y1 | exact y2)))) ((go_at_call 97; have hH := (by assumption : _ ∧ _ ∧ _ ∧ Below w.heap.size w _); obtain ⟨a0, a1, a2, aB⟩ := hH; refine (decimal_ref _ _ (by omega) (by omega)).mono ?_; rintro e w1 ⟨rfl, hb⟩; have hz := aB.size; have c0 := (hb.cell (p := ⟨b2, o2, none⟩) (by simp; omega)).trans a0; have c1 := (hb.cell (p := ⟨b2, o2 + 1, none⟩) (by simp; omega)).trans a1; have c2 := (hb.cell (p := ⟨b2, o2 + 2, none⟩) (by simp; omega)).trans a2; have cB := aB.trans (hb.mono aB.size); clear a0 a1 a2 aB hb hz))
  all_goals
    go_wp2_with fail
    go_ret
    exact ⟨ret_congr (by rw [HU.out]; rfl), cB⟩

theorem unitT_size {n0 n1 n2 : Int} (k0 : numOk n0 = true) (k1 : numOk n1 = true) (k2 : numOk n2 = true) : (unitT n0 n1 n2).size ≤ 3100 := by
  have z0 := itoaS_len k0
  have z1 := itoaS_len k1
  have z2 := itoaS_len k2
  have e0 : ((⟨#[32, 108, 111, 97, 100, 32]⟩ : ByteArray) : ByteArray).size ≤ 6 := Nat.le_refl _
  have e1 : ((⟨#[32, 115, 105, 122, 101, 32]⟩ : ByteArray) : ByteArray).size ≤ 6 := Nat.le_refl _
  have e2 : ((⟨#[32, 115, 104, 97, 114, 101, 32]⟩ : ByteArray) : ByteArray).size ≤ 7 := Nat.le_refl _
  unfold unitT
  simp only [ByteArray.size_append]
  omega

set_option maxHeartbeats 400000 in
theorem domain_ref (n : Int) (w : World) : Calls Tryd.prog 101 #[.int .i64 n] w fun e w' => e = .returned (.string (domR n)) ∧ w = w' := by
  by_cases h2 : n = 2
  · subst h2
    go_enter Tryd.func101, Tryd.ntmps101
    go_wp2_with fail
    go_ret
    exact ⟨rfl, rfl⟩
  by_cases h3 : n = 3
  · subst h3
    go_enter Tryd.func101, Tryd.ntmps101
    go_wp2_with fail
    go_ret
    exact ⟨rfl, rfl⟩
  have HD := hide (show domR n = (⟨#[115, 105, 116, 101]⟩ : ByteArray) by simp [domR, h2, h3])
  go_enter Tryd.func101, Tryd.ntmps101
  go_wp2_with fail
  go_ret
  exact ⟨ret_congr (by rw [HD.out]; rfl), rfl⟩
theorem domR_size (n : Int) : (domR n).size ≤ 4 := by unfold domR; split; exact Nat.le_refl _; split <;> exact Nat.le_refl _

set_option maxRecDepth 100000 in
set_option maxHeartbeats 2000000 in
theorem classes_ref1 (w : World) : Calls Tryd.prog 100 #[.int .i64 1] w fun e w' => ∃ v, e = .returned v ∧ OwnS w.heap.size w' v (clsW 1) ∧ Below w.heap.size w w' := by
  have O0 : OwnS w.heap.size (w.alloc (.cells #[] 9)) (.slice (some ⟨w.heap.size, 0, none⟩) 0 0) [] := OwnS.new w [] (Nat.le_refl _) (by decide)
  have B0 : Below w.heap.size w (w.alloc (.cells #[] 9)) := (Below.refl _ _).alloc (Nat.le_refl _) _
  go_enter Tryd.func100, Tryd.ntmps100
  go_wp2_with (first | (at_builtin; refine append_strs rfl _ _ rfl w.heap.size _ [] rfl (O0.alloc _) _ _ 1 [(⟨#[109, 97, 99, 104, 105, 110, 101]⟩ : ByteArray)] rfl (newRow2 (w.alloc (.cells #[] 9)) 9 [(⟨#[109, 97, 99, 104, 105, 110, 101]⟩ : ByteArray)] (by simp)) (by decide) (Nat.le_trans B0.size (by simp)) ?_; intro v1 w1 O1 G1 _; have B1 := Below.ofGrown (B0.alloc B0.size _) G1 (Nat.le_trans B0.size (by simp)) (fun k hk => (O0.lt k hk).1); clear G1))
  go_ret
  exact ⟨_, rfl, O1, B1⟩

set_option maxRecDepth 100000 in
set_option maxHeartbeats 2000000 in
theorem classes_ref2 (w : World) : Calls Tryd.prog 100 #[.int .i64 2] w fun e w' => ∃ v, e = .returned v ∧ OwnS w.heap.size w' v (clsW 2) ∧ Below w.heap.size w w' := by
  have O0 : OwnS w.heap.size (w.alloc (.cells #[] 9)) (.slice (some ⟨w.heap.size, 0, none⟩) 0 0) [] := OwnS.new w [] (Nat.le_refl _) (by decide)
  have B0 : Below w.heap.size w (w.alloc (.cells #[] 9)) := (Below.refl _ _).alloc (Nat.le_refl _) _
  go_enter Tryd.func100, Tryd.ntmps100
  go_wp2_with (first | (at_builtin; refine append_strs rfl _ _ rfl w.heap.size _ [] rfl (O0.alloc _) _ _ 1 [(⟨#[114, 97, 99, 107]⟩ : ByteArray)] rfl (newRow2 (w.alloc (.cells #[] 9)) 9 [(⟨#[114, 97, 99, 107]⟩ : ByteArray)] (by simp)) (by decide) (Nat.le_trans B0.size (by simp)) ?_; intro v1 w1 O1 G1 _; have B1 := Below.ofGrown (B0.alloc B0.size _) G1 (Nat.le_trans B0.size (by simp)) (fun k hk => (O0.lt k hk).1); clear G1))
  go_ret
  exact ⟨_, rfl, O1, B1⟩

set_option maxRecDepth 100000 in
set_option maxHeartbeats 2000000 in
theorem classes_ref3 (w : World) : Calls Tryd.prog 100 #[.int .i64 3] w fun e w' => ∃ v, e = .returned v ∧ OwnS w.heap.size w' v (clsW 3) ∧ Below w.heap.size w w' := by
  have O0 : OwnS w.heap.size (w.alloc (.cells #[] 9)) (.slice (some ⟨w.heap.size, 0, none⟩) 0 0) [] := OwnS.new w [] (Nat.le_refl _) (by decide)
  have B0 : Below w.heap.size w (w.alloc (.cells #[] 9)) := (Below.refl _ _).alloc (Nat.le_refl _) _
  go_enter Tryd.func100, Tryd.ntmps100
  go_wp2_with (first | (at_builtin; refine append_strs rfl _ _ rfl w.heap.size _ [] rfl (O0.alloc _) _ _ 1 [(⟨#[109, 97, 99, 104, 105, 110, 101]⟩ : ByteArray)] rfl (newRow2 (w.alloc (.cells #[] 9)) 9 [(⟨#[109, 97, 99, 104, 105, 110, 101]⟩ : ByteArray)] (by simp)) (by decide) (Nat.le_trans B0.size (by simp)) ?_; intro v1 w1 O1 G1 _; have B1 := Below.ofGrown (B0.alloc B0.size _) G1 (Nat.le_trans B0.size (by simp)) (fun k hk => (O0.lt k hk).1); clear G1) | (at_builtin; refine append_strs rfl _ _ rfl w.heap.size _ [(⟨#[109, 97, 99, 104, 105, 110, 101]⟩ : ByteArray)] rfl (O1.alloc _) _ _ 1 [(⟨#[114, 97, 99, 107]⟩ : ByteArray)] rfl (newRow2 w1 9 [(⟨#[114, 97, 99, 107]⟩ : ByteArray)] (by simp)) (by decide) (Nat.le_trans B1.size (by simp)) ?_; intro v2 w2 O2 G2 _; have B2 := Below.ofGrown (B1.alloc B1.size _) G2 (Nat.le_trans B1.size (by simp)) (fun k hk => (O1.lt k hk).1); clear G2))
  go_ret
  exact ⟨_, rfl, O2, B2⟩

set_option maxRecDepth 100000 in
set_option maxHeartbeats 2000000 in
theorem classes_ref4 (w : World) : Calls Tryd.prog 100 #[.int .i64 4] w fun e w' => ∃ v, e = .returned v ∧ OwnS w.heap.size w' v (clsW 4) ∧ Below w.heap.size w w' := by
  have O0 : OwnS w.heap.size (w.alloc (.cells #[] 9)) (.slice (some ⟨w.heap.size, 0, none⟩) 0 0) [] := OwnS.new w [] (Nat.le_refl _) (by decide)
  have B0 : Below w.heap.size w (w.alloc (.cells #[] 9)) := (Below.refl _ _).alloc (Nat.le_refl _) _
  go_enter Tryd.func100, Tryd.ntmps100
  go_wp2_with (first | (at_builtin; refine append_strs rfl _ _ rfl w.heap.size _ [] rfl (O0.alloc _) _ _ 1 [(⟨#[102, 101, 101, 100]⟩ : ByteArray)] rfl (newRow2 (w.alloc (.cells #[] 9)) 9 [(⟨#[102, 101, 101, 100]⟩ : ByteArray)] (by simp)) (by decide) (Nat.le_trans B0.size (by simp)) ?_; intro v1 w1 O1 G1 _; have B1 := Below.ofGrown (B0.alloc B0.size _) G1 (Nat.le_trans B0.size (by simp)) (fun k hk => (O0.lt k hk).1); clear G1))
  go_ret
  exact ⟨_, rfl, O1, B1⟩

set_option maxRecDepth 100000 in
set_option maxHeartbeats 2000000 in
theorem classes_ref5 (w : World) : Calls Tryd.prog 100 #[.int .i64 5] w fun e w' => ∃ v, e = .returned v ∧ OwnS w.heap.size w' v (clsW 5) ∧ Below w.heap.size w w' := by
  have O0 : OwnS w.heap.size (w.alloc (.cells #[] 9)) (.slice (some ⟨w.heap.size, 0, none⟩) 0 0) [] := OwnS.new w [] (Nat.le_refl _) (by decide)
  have B0 : Below w.heap.size w (w.alloc (.cells #[] 9)) := (Below.refl _ _).alloc (Nat.le_refl _) _
  go_enter Tryd.func100, Tryd.ntmps100
  go_wp2_with (first | (at_builtin; refine append_strs rfl _ _ rfl w.heap.size _ [] rfl (O0.alloc _) _ _ 1 [(⟨#[109, 97, 99, 104, 105, 110, 101]⟩ : ByteArray)] rfl (newRow2 (w.alloc (.cells #[] 9)) 9 [(⟨#[109, 97, 99, 104, 105, 110, 101]⟩ : ByteArray)] (by simp)) (by decide) (Nat.le_trans B0.size (by simp)) ?_; intro v1 w1 O1 G1 _; have B1 := Below.ofGrown (B0.alloc B0.size _) G1 (Nat.le_trans B0.size (by simp)) (fun k hk => (O0.lt k hk).1); clear G1) | (at_builtin; refine append_strs rfl _ _ rfl w.heap.size _ [(⟨#[109, 97, 99, 104, 105, 110, 101]⟩ : ByteArray)] rfl (O1.alloc _) _ _ 1 [(⟨#[102, 101, 101, 100]⟩ : ByteArray)] rfl (newRow2 w1 9 [(⟨#[102, 101, 101, 100]⟩ : ByteArray)] (by simp)) (by decide) (Nat.le_trans B1.size (by simp)) ?_; intro v2 w2 O2 G2 _; have B2 := Below.ofGrown (B1.alloc B1.size _) G2 (Nat.le_trans B1.size (by simp)) (fun k hk => (O1.lt k hk).1); clear G2))
  go_ret
  exact ⟨_, rfl, O2, B2⟩

set_option maxRecDepth 100000 in
set_option maxHeartbeats 2000000 in
theorem classes_ref6 (w : World) : Calls Tryd.prog 100 #[.int .i64 6] w fun e w' => ∃ v, e = .returned v ∧ OwnS w.heap.size w' v (clsW 6) ∧ Below w.heap.size w w' := by
  have O0 : OwnS w.heap.size (w.alloc (.cells #[] 9)) (.slice (some ⟨w.heap.size, 0, none⟩) 0 0) [] := OwnS.new w [] (Nat.le_refl _) (by decide)
  have B0 : Below w.heap.size w (w.alloc (.cells #[] 9)) := (Below.refl _ _).alloc (Nat.le_refl _) _
  go_enter Tryd.func100, Tryd.ntmps100
  go_wp2_with (first | (at_builtin; refine append_strs rfl _ _ rfl w.heap.size _ [] rfl (O0.alloc _) _ _ 1 [(⟨#[114, 97, 99, 107]⟩ : ByteArray)] rfl (newRow2 (w.alloc (.cells #[] 9)) 9 [(⟨#[114, 97, 99, 107]⟩ : ByteArray)] (by simp)) (by decide) (Nat.le_trans B0.size (by simp)) ?_; intro v1 w1 O1 G1 _; have B1 := Below.ofGrown (B0.alloc B0.size _) G1 (Nat.le_trans B0.size (by simp)) (fun k hk => (O0.lt k hk).1); clear G1) | (at_builtin; refine append_strs rfl _ _ rfl w.heap.size _ [(⟨#[114, 97, 99, 107]⟩ : ByteArray)] rfl (O1.alloc _) _ _ 1 [(⟨#[102, 101, 101, 100]⟩ : ByteArray)] rfl (newRow2 w1 9 [(⟨#[102, 101, 101, 100]⟩ : ByteArray)] (by simp)) (by decide) (Nat.le_trans B1.size (by simp)) ?_; intro v2 w2 O2 G2 _; have B2 := Below.ofGrown (B1.alloc B1.size _) G2 (Nat.le_trans B1.size (by simp)) (fun k hk => (O1.lt k hk).1); clear G2))
  go_ret
  exact ⟨_, rfl, O2, B2⟩

set_option maxRecDepth 100000 in
set_option maxHeartbeats 2000000 in
theorem classes_ref7 (w : World) : Calls Tryd.prog 100 #[.int .i64 7] w fun e w' => ∃ v, e = .returned v ∧ OwnS w.heap.size w' v (clsW 7) ∧ Below w.heap.size w w' := by
  have O0 : OwnS w.heap.size (w.alloc (.cells #[] 9)) (.slice (some ⟨w.heap.size, 0, none⟩) 0 0) [] := OwnS.new w [] (Nat.le_refl _) (by decide)
  have B0 : Below w.heap.size w (w.alloc (.cells #[] 9)) := (Below.refl _ _).alloc (Nat.le_refl _) _
  go_enter Tryd.func100, Tryd.ntmps100
  go_wp2_with (first | (at_builtin; refine append_strs rfl _ _ rfl w.heap.size _ [] rfl (O0.alloc _) _ _ 1 [(⟨#[109, 97, 99, 104, 105, 110, 101]⟩ : ByteArray)] rfl (newRow2 (w.alloc (.cells #[] 9)) 9 [(⟨#[109, 97, 99, 104, 105, 110, 101]⟩ : ByteArray)] (by simp)) (by decide) (Nat.le_trans B0.size (by simp)) ?_; intro v1 w1 O1 G1 _; have B1 := Below.ofGrown (B0.alloc B0.size _) G1 (Nat.le_trans B0.size (by simp)) (fun k hk => (O0.lt k hk).1); clear G1) | (at_builtin; refine append_strs rfl _ _ rfl w.heap.size _ [(⟨#[109, 97, 99, 104, 105, 110, 101]⟩ : ByteArray)] rfl (O1.alloc _) _ _ 1 [(⟨#[114, 97, 99, 107]⟩ : ByteArray)] rfl (newRow2 w1 9 [(⟨#[114, 97, 99, 107]⟩ : ByteArray)] (by simp)) (by decide) (Nat.le_trans B1.size (by simp)) ?_; intro v2 w2 O2 G2 _; have B2 := Below.ofGrown (B1.alloc B1.size _) G2 (Nat.le_trans B1.size (by simp)) (fun k hk => (O1.lt k hk).1); clear G2) | (at_builtin; refine append_strs rfl _ _ rfl w.heap.size _ [(⟨#[109, 97, 99, 104, 105, 110, 101]⟩ : ByteArray), (⟨#[114, 97, 99, 107]⟩ : ByteArray)] rfl (O2.alloc _) _ _ 1 [(⟨#[102, 101, 101, 100]⟩ : ByteArray)] rfl (newRow2 w2 9 [(⟨#[102, 101, 101, 100]⟩ : ByteArray)] (by simp)) (by decide) (Nat.le_trans B2.size (by simp)) ?_; intro v3 w3 O3 G3 _; have B3 := Below.ofGrown (B2.alloc B2.size _) G3 (Nat.le_trans B2.size (by simp)) (fun k hk => (O2.lt k hk).1); clear G3))
  go_ret
  exact ⟨_, rfl, O3, B3⟩

theorem classes_ref (n : Int) (w : World) (h1 : 1 ≤ n) (h2 : n ≤ 7) : Calls Tryd.prog 100 #[.int .i64 n] w fun e w' => ∃ v, e = .returned v ∧ OwnS w.heap.size w' v (clsW n.toNat) ∧ Below w.heap.size w w' := by
  have : n = 1 ∨ n = 2 ∨ n = 3 ∨ n = 4 ∨ n = 5 ∨ n = 6 ∨ n = 7 := by omega
  rcases this with rfl | rfl | rfl | rfl | rfl | rfl | rfl
  · exact classes_ref1 w
  · exact classes_ref2 w
  · exact classes_ref3 w
  · exact classes_ref4 w
  · exact classes_ref5 w
  · exact classes_ref6 w
  · exact classes_ref7 w

set_option maxRecDepth 100000 in
set_option maxHeartbeats 2000000 in
theorem body0 (nm : ByteArray) (ra : Option Addr) (rc : Nat) (na : Option Addr) (nc : Nat) (bY : Int) (al : Bool) (w : World) (_hr : Strs w w.heap.size ra []) (_hn : Ints w w.heap.size na []) (_sn : nm.size ≤ 1000) :
    Calls Tryd.prog 43 #[.agg #[.int .i64 0, .string nm, .slice ra 0 rc, .slice na 0 nc, .int .i64 bY, .bool al]] w
      fun e w' => e = .returned (.string (nm)) ∧ Below w.heap.size w w' := by
  go_enter Tryd.func43, Tryd.ntmps43
  go_wp2_with fail
  go_quiet (fail)
  go_wp2_with fail
  go_ret
  exact ⟨rfl, by first | exact below_drawn (below_drawn ((Below.refl _ _).alloc (Nat.le_refl _) _) _) _ | exact below_drawn ((Below.refl _ _).alloc (Nat.le_refl _) _) _⟩

set_option maxRecDepth 100000 in
set_option maxHeartbeats 2000000 in
theorem body1 (nm : ByteArray) (ra : Option Addr) (rc : Nat) (na : Option Addr) (nc : Nat) (bY : Int) (al : Bool) (w : World) (_hr : Strs w w.heap.size ra []) (_hn : Ints w w.heap.size na []) (_sn : nm.size ≤ 1000) :
    Calls Tryd.prog 43 #[.agg #[.int .i64 1, .string nm, .slice ra 0 rc, .slice na 0 nc, .int .i64 bY, .bool al]] w
      fun e w' => e = .returned (.string (nm)) ∧ Below w.heap.size w w' := by
  go_enter Tryd.func43, Tryd.ntmps43
  go_wp2_with fail
  go_quiet (fail)
  go_wp2_with fail
  go_ret
  exact ⟨rfl, by first | exact below_drawn (below_drawn ((Below.refl _ _).alloc (Nat.le_refl _) _) _) _ | exact below_drawn ((Below.refl _ _).alloc (Nat.le_refl _) _) _⟩

set_option maxRecDepth 100000 in
set_option maxHeartbeats 2000000 in
theorem body2 (nm : ByteArray) (ra : Option Addr) (r0 : ByteArray) (r1 : ByteArray) (rc : Nat) (na : Option Addr) (nc : Nat) (bY : Int) (al : Bool) (w : World) (hr : Strs w w.heap.size ra [r0, r1]) (_hn : Ints w w.heap.size na []) (sn : nm.size ≤ 1000) (s0 : r0.size ≤ 1000) (s1 : r1.size ≤ 1000) :
    Calls Tryd.prog 43 #[.agg #[.int .i64 2, .string nm, .slice ra 2 rc, .slice na 0 nc, .int .i64 bY, .bool al]] w
      fun e w' => e = .returned (.string (nm ++ (⟨#[32, 105, 110, 32]⟩ : ByteArray) ++ r0 ++ (⟨#[32, 111, 110, 32]⟩ : ByteArray) ++ r1)) ∧ Below w.heap.size w w' := by
  obtain ⟨b1, o1, rfl, hb1, hc1⟩ := hr.form (by simp)
  have x0 := hc1 0 (by simp)
  simp at x0
  have x1 := hc1 1 (by simp)
  simp at x1
  clear hc1
  have hz0 : ((⟨#[32, 105, 110, 32]⟩ : ByteArray) : ByteArray).size ≤ 4 := Nat.le_refl _
  have q1 : ∀ W, (Op.stringOp .add (nm) (⟨#[32, 105, 110, 32]⟩ : ByteArray)).run Tryd.prog W = .ok (.string (nm ++ (⟨#[32, 105, 110, 32]⟩ : ByteArray))) W := fun W => run_string_add_sum W _ _ (by first | omega | (simp only [ByteArray.size_append]; omega))
  have q3 : ∀ W, (Op.stringOp .add (nm ++ (⟨#[32, 105, 110, 32]⟩ : ByteArray)) r0).run Tryd.prog W = .ok (.string (nm ++ (⟨#[32, 105, 110, 32]⟩ : ByteArray) ++ r0)) W := fun W => run_string_add_sum W _ _ (by first | omega | (simp only [ByteArray.size_append]; omega))
  have hz4 : ((⟨#[32, 111, 110, 32]⟩ : ByteArray) : ByteArray).size ≤ 4 := Nat.le_refl _
  have q5 : ∀ W, (Op.stringOp .add (nm ++ (⟨#[32, 105, 110, 32]⟩ : ByteArray) ++ r0) (⟨#[32, 111, 110, 32]⟩ : ByteArray)).run Tryd.prog W = .ok (.string (nm ++ (⟨#[32, 105, 110, 32]⟩ : ByteArray) ++ r0 ++ (⟨#[32, 111, 110, 32]⟩ : ByteArray))) W := fun W => run_string_add_sum W _ _ (by first | omega | (simp only [ByteArray.size_append]; omega))
  have q7 : ∀ W, (Op.stringOp .add (nm ++ (⟨#[32, 105, 110, 32]⟩ : ByteArray) ++ r0 ++ (⟨#[32, 111, 110, 32]⟩ : ByteArray)) r1).run Tryd.prog W = .ok (.string (nm ++ (⟨#[32, 105, 110, 32]⟩ : ByteArray) ++ r0 ++ (⟨#[32, 111, 110, 32]⟩ : ByteArray) ++ r1)) W := fun W => run_string_add_sum W _ _ (by first | omega | (simp only [ByteArray.size_append]; omega))
  go_enter Tryd.func43, Tryd.ntmps43
  go_wp2_with fail
  go_quiet (fail)
  go_wp2_with fail
  go_quiet (fail)
  go_wp2_with fail
  go_ret
  exact ⟨rfl, by first | exact below_drawn (below_drawn ((Below.refl _ _).alloc (Nat.le_refl _) _) _) _ | exact below_drawn ((Below.refl _ _).alloc (Nat.le_refl _) _) _⟩

set_option maxRecDepth 100000 in
set_option maxHeartbeats 2000000 in
theorem body3 (nm : ByteArray) (ra : Option Addr) (r0 : ByteArray) (rc : Nat) (na : Option Addr) (n0 : Int) (nc : Nat) (bY : Int) (al : Bool) (w : World) (hr : Strs w w.heap.size ra [r0]) (hn : Ints w w.heap.size na [n0]) (sn : nm.size ≤ 1000) (s0 : r0.size ≤ 1000) (k0 : numOk n0 = true) :
    Calls Tryd.prog 43 #[.agg #[.int .i64 3, .string nm, .slice ra 1 rc, .slice na 1 nc, .int .i64 bY, .bool al]] w
      fun e w' => e = .returned (.string (nm ++ (⟨#[32, 105, 110, 32]⟩ : ByteArray) ++ r0 ++ (⟨#[32, 99, 97, 112, 97, 99, 105, 116, 121, 32]⟩ : ByteArray) ++ itoaS n0)) ∧ Below w.heap.size w w' := by
  have z0 := itoaS_len k0
  have l0 := numOk_le k0
  obtain ⟨b1, o1, rfl, hb1, hc1⟩ := hr.form (by simp)
  have x0 := hc1 0 (by simp)
  simp at x0
  clear hc1
  obtain ⟨b2, o2, rfl, hb2, hc2⟩ := hn.form (by simp)
  have y0 := hc2 0 (by simp)
  simp at y0
  clear hc2
  go_enter Tryd.func43, Tryd.ntmps43
  go_wp2_with fail
  go_quiet (fail)
  go_wp2_with fail
  have eB : Below w.heap.size w (w.alloc (.cells #[.int .i64 3, .string nm, .slice (some ⟨b1, o1, none⟩) 1 rc, .slice (some ⟨b2, o2, none⟩) 1 nc, .int .i64 bY, .bool al] 38)) := (Below.refl _ _).alloc (Nat.le_refl _) _
  have eZ : w.heap.size < (w.alloc (.cells #[.int .i64 3, .string nm, .slice (some ⟨b1, o1, none⟩) 1 rc, .slice (some ⟨b2, o2, none⟩) 1 nc, .int .i64 bY, .bool al] 38)).heap.size := by simp
  have e0 : (w.alloc (.cells #[.int .i64 3, .string nm, .slice (some ⟨b1, o1, none⟩) 1 rc, .slice (some ⟨b2, o2, none⟩) 1 nc, .int .i64 bY, .bool al] 38)).cell? ⟨w.heap.size, 1, none⟩ = some (.string nm) := cell?_new _ _ _ _
  have e1 : (w.alloc (.cells #[.int .i64 3, .string nm, .slice (some ⟨b1, o1, none⟩) 1 rc, .slice (some ⟨b2, o2, none⟩) 1 nc, .int .i64 bY, .bool al] 38)).cell? ⟨b1, o1, none⟩ = some (.string r0) := (World.cell?_alloc_lt _ _ _ hb1).trans x0
  have e2 : (w.alloc (.cells #[.int .i64 3, .string nm, .slice (some ⟨b1, o1, none⟩) 1 rc, .slice (some ⟨b2, o2, none⟩) 1 nc, .int .i64 bY, .bool al] 38)).cell? ⟨b2, o2, none⟩ = some (.int .i64 n0) := (World.cell?_alloc_lt _ _ _ hb2).trans y0
  clear x0 y0
  generalize (w.alloc (.cells #[.int .i64 3, .string nm, .slice (some ⟨b1, o1, none⟩) 1 rc, .slice (some ⟨b2, o2, none⟩) 1 nc, .int .i64 bY, .bool al] 38)) = W at *
  have eB := below_drawn eB nq
  have eZ : w.heap.size < (W.drewN nq).heap.size := by simpa using eZ
  have e0 : (W.drewN nq).cell? ⟨w.heap.size, 1, none⟩ = some (.string nm) := by simpa using e0
  have e1 : (W.drewN nq).cell? ⟨b1, o1, none⟩ = some (.string r0) := by simpa using e1
  have e2 : (W.drewN nq).cell? ⟨b2, o2, none⟩ = some (.int .i64 n0) := by simpa using e2
  generalize W.drewN nq = W at *
  have hz0 : ((⟨#[32, 105, 110, 32]⟩ : ByteArray) : ByteArray).size ≤ 4 := Nat.le_refl _
  have q1 : ∀ W, (Op.stringOp .add (nm) (⟨#[32, 105, 110, 32]⟩ : ByteArray)).run Tryd.prog W = .ok (.string (nm ++ (⟨#[32, 105, 110, 32]⟩ : ByteArray))) W := fun W => run_string_add_sum W _ _ (by first | omega | (simp only [ByteArray.size_append]; omega))
  have q3 : ∀ W, (Op.stringOp .add (nm ++ (⟨#[32, 105, 110, 32]⟩ : ByteArray)) r0).run Tryd.prog W = .ok (.string (nm ++ (⟨#[32, 105, 110, 32]⟩ : ByteArray) ++ r0)) W := fun W => run_string_add_sum W _ _ (by first | omega | (simp only [ByteArray.size_append]; omega))
  have hz4 : ((⟨#[32, 99, 97, 112, 97, 99, 105, 116, 121, 32]⟩ : ByteArray) : ByteArray).size ≤ 10 := Nat.le_refl _
  have q5 : ∀ W, (Op.stringOp .add (nm ++ (⟨#[32, 105, 110, 32]⟩ : ByteArray) ++ r0) (⟨#[32, 99, 97, 112, 97, 99, 105, 116, 121, 32]⟩ : ByteArray)).run Tryd.prog W = .ok (.string (nm ++ (⟨#[32, 105, 110, 32]⟩ : ByteArray) ++ r0 ++ (⟨#[32, 99, 97, 112, 97, 99, 105, 116, 121, 32]⟩ : ByteArray))) W := fun W => run_string_add_sum W _ _ (by first | omega | (simp only [ByteArray.size_append]; omega))
  have q7 : ∀ W, (Op.stringOp .add (nm ++ (⟨#[32, 105, 110, 32]⟩ : ByteArray) ++ r0 ++ (⟨#[32, 99, 97, 112, 97, 99, 105, 116, 121, 32]⟩ : ByteArray)) (itoaS n0)).run Tryd.prog W = .ok (.string (nm ++ (⟨#[32, 105, 110, 32]⟩ : ByteArray) ++ r0 ++ (⟨#[32, 99, 97, 112, 97, 99, 105, 116, 121, 32]⟩ : ByteArray) ++ itoaS n0)) W := fun W => run_string_add_sum W _ _ (by first | omega | (simp only [ByteArray.size_append]; omega))
  go_region_held3 (fun X => X.cell? ⟨w.heap.size, 1, none⟩ = some (.string nm) ∧ X.cell? ⟨b1, o1, none⟩ = some (.string r0) ∧ X.cell? ⟨b2, o2, none⟩ = some (.int .i64 n0) ∧ w.heap.size < X.heap.size ∧ Below w.heap.size w X) ((first | (go_keep; done) | (refine ⟨?_, ?_, ?_, ?_, ?_⟩ <;> (first | assumption | exact eB.drew | exact eZ | exact e0 | exact e1 | exact e2 | (simp; omega))))) ((first | (go_at_call 97; have hH := (by assumption : _ ∧ _ ∧ _ ∧ w.heap.size < _ ∧ Below w.heap.size w _); obtain ⟨a0, a1, a2, aZ, aB⟩ := hH; refine (decimal_ref _ _ (by omega) (by omega)).mono ?_; rintro e w1 ⟨rfl, hb⟩; have c0 := (hb.cell (p := ⟨w.heap.size, 1, none⟩) (by simp; omega)).trans a0; have c1 := (hb.cell (p := ⟨b1, o1, none⟩) (by simp; omega)).trans a1; have c2 := (hb.cell (p := ⟨b2, o2, none⟩) (by simp; omega)).trans a2; have cZ := Nat.lt_of_lt_of_le aZ hb.size; have cB := aB.trans (hb.mono aB.size); clear a0 a1 a2 aZ aB hb)))
  all_goals
    go_wp2_with fail
    go_ret
    exact ⟨rfl, by first | exact cB | exact eB.drew | exact eB⟩

set_option maxRecDepth 100000 in
set_option maxHeartbeats 2000000 in
theorem body4 (nm : ByteArray) (ra : Option Addr) (r0 : ByteArray) (r1 : ByteArray) (rc : Nat) (na : Option Addr) (n0 : Int) (nc : Nat) (bY : Int) (al : Bool) (w : World) (hr : Strs w w.heap.size ra [r0, r1]) (hn : Ints w w.heap.size na [n0]) (_sn : nm.size ≤ 1000) (s0 : r0.size ≤ 1000) (s1 : r1.size ≤ 1000) (k0 : numOk n0 = true) :
    Calls Tryd.prog 43 #[.agg #[.int .i64 4, .string nm, .slice ra 2 rc, .slice na 1 nc, .int .i64 bY, .bool al]] w
      fun e w' => e = .returned (.string (r0 ++ (⟨#[32]⟩ : ByteArray) ++ r1 ++ (⟨#[32]⟩ : ByteArray) ++ itoaS n0)) ∧ Below w.heap.size w w' := by
  have z0 := itoaS_len k0
  have l0 := numOk_le k0
  obtain ⟨b1, o1, rfl, hb1, hc1⟩ := hr.form (by simp)
  have x0 := hc1 0 (by simp)
  simp at x0
  have x1 := hc1 1 (by simp)
  simp at x1
  clear hc1
  obtain ⟨b2, o2, rfl, hb2, hc2⟩ := hn.form (by simp)
  have y0 := hc2 0 (by simp)
  simp at y0
  clear hc2
  go_enter Tryd.func43, Tryd.ntmps43
  go_wp2_with fail
  go_quiet (fail)
  go_wp2_with fail
  have eB : Below w.heap.size w (w.alloc (.cells #[.int .i64 4, .string nm, .slice (some ⟨b1, o1, none⟩) 2 rc, .slice (some ⟨b2, o2, none⟩) 1 nc, .int .i64 bY, .bool al] 38)) := (Below.refl _ _).alloc (Nat.le_refl _) _
  have eZ : w.heap.size < (w.alloc (.cells #[.int .i64 4, .string nm, .slice (some ⟨b1, o1, none⟩) 2 rc, .slice (some ⟨b2, o2, none⟩) 1 nc, .int .i64 bY, .bool al] 38)).heap.size := by simp
  have e0 : (w.alloc (.cells #[.int .i64 4, .string nm, .slice (some ⟨b1, o1, none⟩) 2 rc, .slice (some ⟨b2, o2, none⟩) 1 nc, .int .i64 bY, .bool al] 38)).cell? ⟨b1, o1, none⟩ = some (.string r0) := (World.cell?_alloc_lt _ _ _ hb1).trans x0
  have e1 : (w.alloc (.cells #[.int .i64 4, .string nm, .slice (some ⟨b1, o1, none⟩) 2 rc, .slice (some ⟨b2, o2, none⟩) 1 nc, .int .i64 bY, .bool al] 38)).cell? ⟨b1, o1 + 1, none⟩ = some (.string r1) := (World.cell?_alloc_lt _ _ _ hb1).trans x1
  have e2 : (w.alloc (.cells #[.int .i64 4, .string nm, .slice (some ⟨b1, o1, none⟩) 2 rc, .slice (some ⟨b2, o2, none⟩) 1 nc, .int .i64 bY, .bool al] 38)).cell? ⟨b2, o2, none⟩ = some (.int .i64 n0) := (World.cell?_alloc_lt _ _ _ hb2).trans y0
  clear x0 x1 y0
  generalize (w.alloc (.cells #[.int .i64 4, .string nm, .slice (some ⟨b1, o1, none⟩) 2 rc, .slice (some ⟨b2, o2, none⟩) 1 nc, .int .i64 bY, .bool al] 38)) = W at *
  have eB := below_drawn eB nq
  have eZ : w.heap.size < (W.drewN nq).heap.size := by simpa using eZ
  have e0 : (W.drewN nq).cell? ⟨b1, o1, none⟩ = some (.string r0) := by simpa using e0
  have e1 : (W.drewN nq).cell? ⟨b1, o1 + 1, none⟩ = some (.string r1) := by simpa using e1
  have e2 : (W.drewN nq).cell? ⟨b2, o2, none⟩ = some (.int .i64 n0) := by simpa using e2
  generalize W.drewN nq = W at *
  have hz0 : ((⟨#[32]⟩ : ByteArray) : ByteArray).size ≤ 1 := Nat.le_refl _
  have q1 : ∀ W, (Op.stringOp .add (r0) (⟨#[32]⟩ : ByteArray)).run Tryd.prog W = .ok (.string (r0 ++ (⟨#[32]⟩ : ByteArray))) W := fun W => run_string_add_sum W _ _ (by first | omega | (simp only [ByteArray.size_append]; omega))
  have q3 : ∀ W, (Op.stringOp .add (r0 ++ (⟨#[32]⟩ : ByteArray)) r1).run Tryd.prog W = .ok (.string (r0 ++ (⟨#[32]⟩ : ByteArray) ++ r1)) W := fun W => run_string_add_sum W _ _ (by first | omega | (simp only [ByteArray.size_append]; omega))
  have hz4 : ((⟨#[32]⟩ : ByteArray) : ByteArray).size ≤ 1 := Nat.le_refl _
  have q5 : ∀ W, (Op.stringOp .add (r0 ++ (⟨#[32]⟩ : ByteArray) ++ r1) (⟨#[32]⟩ : ByteArray)).run Tryd.prog W = .ok (.string (r0 ++ (⟨#[32]⟩ : ByteArray) ++ r1 ++ (⟨#[32]⟩ : ByteArray))) W := fun W => run_string_add_sum W _ _ (by first | omega | (simp only [ByteArray.size_append]; omega))
  have q7 : ∀ W, (Op.stringOp .add (r0 ++ (⟨#[32]⟩ : ByteArray) ++ r1 ++ (⟨#[32]⟩ : ByteArray)) (itoaS n0)).run Tryd.prog W = .ok (.string (r0 ++ (⟨#[32]⟩ : ByteArray) ++ r1 ++ (⟨#[32]⟩ : ByteArray) ++ itoaS n0)) W := fun W => run_string_add_sum W _ _ (by first | omega | (simp only [ByteArray.size_append]; omega))
  go_region_held3 (fun X => X.cell? ⟨b1, o1, none⟩ = some (.string r0) ∧ X.cell? ⟨b1, o1 + 1, none⟩ = some (.string r1) ∧ X.cell? ⟨b2, o2, none⟩ = some (.int .i64 n0) ∧ w.heap.size < X.heap.size ∧ Below w.heap.size w X) ((first | (go_keep; done) | (refine ⟨?_, ?_, ?_, ?_, ?_⟩ <;> (first | assumption | exact eB.drew | exact eZ | exact e0 | exact e1 | exact e2 | (simp; omega))))) ((first | (go_at_call 97; have hH := (by assumption : _ ∧ _ ∧ _ ∧ w.heap.size < _ ∧ Below w.heap.size w _); obtain ⟨a0, a1, a2, aZ, aB⟩ := hH; refine (decimal_ref _ _ (by omega) (by omega)).mono ?_; rintro e w1 ⟨rfl, hb⟩; have c0 := (hb.cell (p := ⟨b1, o1, none⟩) (by simp; omega)).trans a0; have c1 := (hb.cell (p := ⟨b1, o1 + 1, none⟩) (by simp; omega)).trans a1; have c2 := (hb.cell (p := ⟨b2, o2, none⟩) (by simp; omega)).trans a2; have cZ := Nat.lt_of_lt_of_le aZ hb.size; have cB := aB.trans (hb.mono aB.size); clear a0 a1 a2 aZ aB hb)))
  all_goals
    go_wp2_with fail
    go_ret
    exact ⟨rfl, by first | exact cB | exact eB.drew | exact eB⟩

set_option maxRecDepth 100000 in
set_option maxHeartbeats 2000000 in
theorem body8 (nm : ByteArray) (ra : Option Addr) (r0 : ByteArray) (rc : Nat) (na : Option Addr) (n0 : Int) (n1 : Int) (nc : Nat) (bY : Int) (al : Bool) (w : World) (hr : Strs w w.heap.size ra [r0]) (hn : Ints w w.heap.size na [n0, n1]) (_sn : nm.size ≤ 1000) (s0 : r0.size ≤ 1000) (k0 : numOk n0 = true) (k1 : numOk n1 = true) :
    Calls Tryd.prog 43 #[.agg #[.int .i64 8, .string nm, .slice ra 1 rc, .slice na 2 nc, .int .i64 bY, .bool al]] w
      fun e w' => e = .returned (.string (r0 ++ (⟨#[32, 115, 108, 111, 116, 115, 32]⟩ : ByteArray) ++ itoaS n0 ++ (⟨#[32, 114, 101, 115, 101, 114, 118, 101, 32]⟩ : ByteArray) ++ itoaS n1)) ∧ Below w.heap.size w w' := by
  have z0 := itoaS_len k0
  have l0 := numOk_le k0
  have z1 := itoaS_len k1
  have l1 := numOk_le k1
  obtain ⟨b1, o1, rfl, hb1, hc1⟩ := hr.form (by simp)
  have x0 := hc1 0 (by simp)
  simp at x0
  clear hc1
  obtain ⟨b2, o2, rfl, hb2, hc2⟩ := hn.form (by simp)
  have y0 := hc2 0 (by simp)
  simp at y0
  have y1 := hc2 1 (by simp)
  simp at y1
  clear hc2
  go_enter Tryd.func43, Tryd.ntmps43
  go_wp2_with fail
  go_quiet (fail)
  go_wp2_with fail
  have eB : Below w.heap.size w (w.alloc (.cells #[.int .i64 8, .string nm, .slice (some ⟨b1, o1, none⟩) 1 rc, .slice (some ⟨b2, o2, none⟩) 2 nc, .int .i64 bY, .bool al] 38)) := (Below.refl _ _).alloc (Nat.le_refl _) _
  have eZ : w.heap.size < (w.alloc (.cells #[.int .i64 8, .string nm, .slice (some ⟨b1, o1, none⟩) 1 rc, .slice (some ⟨b2, o2, none⟩) 2 nc, .int .i64 bY, .bool al] 38)).heap.size := by simp
  have e0 : (w.alloc (.cells #[.int .i64 8, .string nm, .slice (some ⟨b1, o1, none⟩) 1 rc, .slice (some ⟨b2, o2, none⟩) 2 nc, .int .i64 bY, .bool al] 38)).cell? ⟨b1, o1, none⟩ = some (.string r0) := (World.cell?_alloc_lt _ _ _ hb1).trans x0
  have e1 : (w.alloc (.cells #[.int .i64 8, .string nm, .slice (some ⟨b1, o1, none⟩) 1 rc, .slice (some ⟨b2, o2, none⟩) 2 nc, .int .i64 bY, .bool al] 38)).cell? ⟨b2, o2, none⟩ = some (.int .i64 n0) := (World.cell?_alloc_lt _ _ _ hb2).trans y0
  have e2 : (w.alloc (.cells #[.int .i64 8, .string nm, .slice (some ⟨b1, o1, none⟩) 1 rc, .slice (some ⟨b2, o2, none⟩) 2 nc, .int .i64 bY, .bool al] 38)).cell? ⟨b2, o2 + 1, none⟩ = some (.int .i64 n1) := (World.cell?_alloc_lt _ _ _ hb2).trans y1
  clear x0 y0 y1
  generalize (w.alloc (.cells #[.int .i64 8, .string nm, .slice (some ⟨b1, o1, none⟩) 1 rc, .slice (some ⟨b2, o2, none⟩) 2 nc, .int .i64 bY, .bool al] 38)) = W at *
  have eB := below_drawn eB nq
  have eZ : w.heap.size < (W.drewN nq).heap.size := by simpa using eZ
  have e0 : (W.drewN nq).cell? ⟨b1, o1, none⟩ = some (.string r0) := by simpa using e0
  have e1 : (W.drewN nq).cell? ⟨b2, o2, none⟩ = some (.int .i64 n0) := by simpa using e1
  have e2 : (W.drewN nq).cell? ⟨b2, o2 + 1, none⟩ = some (.int .i64 n1) := by simpa using e2
  generalize W.drewN nq = W at *
  have hz0 : ((⟨#[32, 115, 108, 111, 116, 115, 32]⟩ : ByteArray) : ByteArray).size ≤ 7 := Nat.le_refl _
  have q1 : ∀ W, (Op.stringOp .add (r0) (⟨#[32, 115, 108, 111, 116, 115, 32]⟩ : ByteArray)).run Tryd.prog W = .ok (.string (r0 ++ (⟨#[32, 115, 108, 111, 116, 115, 32]⟩ : ByteArray))) W := fun W => run_string_add_sum W _ _ (by first | omega | (simp only [ByteArray.size_append]; omega))
  have q3 : ∀ W, (Op.stringOp .add (r0 ++ (⟨#[32, 115, 108, 111, 116, 115, 32]⟩ : ByteArray)) (itoaS n0)).run Tryd.prog W = .ok (.string (r0 ++ (⟨#[32, 115, 108, 111, 116, 115, 32]⟩ : ByteArray) ++ itoaS n0)) W := fun W => run_string_add_sum W _ _ (by first | omega | (simp only [ByteArray.size_append]; omega))
  have hz4 : ((⟨#[32, 114, 101, 115, 101, 114, 118, 101, 32]⟩ : ByteArray) : ByteArray).size ≤ 9 := Nat.le_refl _
  have q5 : ∀ W, (Op.stringOp .add (r0 ++ (⟨#[32, 115, 108, 111, 116, 115, 32]⟩ : ByteArray) ++ itoaS n0) (⟨#[32, 114, 101, 115, 101, 114, 118, 101, 32]⟩ : ByteArray)).run Tryd.prog W = .ok (.string (r0 ++ (⟨#[32, 115, 108, 111, 116, 115, 32]⟩ : ByteArray) ++ itoaS n0 ++ (⟨#[32, 114, 101, 115, 101, 114, 118, 101, 32]⟩ : ByteArray))) W := fun W => run_string_add_sum W _ _ (by first | omega | (simp only [ByteArray.size_append]; omega))
  have q7 : ∀ W, (Op.stringOp .add (r0 ++ (⟨#[32, 115, 108, 111, 116, 115, 32]⟩ : ByteArray) ++ itoaS n0 ++ (⟨#[32, 114, 101, 115, 101, 114, 118, 101, 32]⟩ : ByteArray)) (itoaS n1)).run Tryd.prog W = .ok (.string (r0 ++ (⟨#[32, 115, 108, 111, 116, 115, 32]⟩ : ByteArray) ++ itoaS n0 ++ (⟨#[32, 114, 101, 115, 101, 114, 118, 101, 32]⟩ : ByteArray) ++ itoaS n1)) W := fun W => run_string_add_sum W _ _ (by first | omega | (simp only [ByteArray.size_append]; omega))
  go_region_held3 (fun X => X.cell? ⟨b1, o1, none⟩ = some (.string r0) ∧ X.cell? ⟨b2, o2, none⟩ = some (.int .i64 n0) ∧ X.cell? ⟨b2, o2 + 1, none⟩ = some (.int .i64 n1) ∧ w.heap.size < X.heap.size ∧ Below w.heap.size w X) ((first | (go_keep; done) | (refine ⟨?_, ?_, ?_, ?_, ?_⟩ <;> (first | assumption | exact eB.drew | exact eZ | exact e0 | exact e1 | exact e2 | (simp; omega))))) ((first | (go_at_call 97; have hH := (by assumption : _ ∧ _ ∧ _ ∧ w.heap.size < _ ∧ Below w.heap.size w _); obtain ⟨a0, a1, a2, aZ, aB⟩ := hH; refine (decimal_ref _ _ (by omega) (by omega)).mono ?_; rintro e w1 ⟨rfl, hb⟩; have c0 := (hb.cell (p := ⟨b1, o1, none⟩) (by simp; omega)).trans a0; have c1 := (hb.cell (p := ⟨b2, o2, none⟩) (by simp; omega)).trans a1; have c2 := (hb.cell (p := ⟨b2, o2 + 1, none⟩) (by simp; omega)).trans a2; have cZ := Nat.lt_of_lt_of_le aZ hb.size; have cB := aB.trans (hb.mono aB.size); clear a0 a1 a2 aZ aB hb)))
  all_goals
    go_wp2_with fail
    go_ret
    exact ⟨rfl, by first | exact cB | exact eB.drew | exact eB⟩

set_option maxRecDepth 100000 in
set_option maxHeartbeats 2000000 in
theorem body10 (nm : ByteArray) (ra : Option Addr) (r0 : ByteArray) (rc : Nat) (na : Option Addr) (nc : Nat) (bY : Int) (al : Bool) (w : World) (hr : Strs w w.heap.size ra [r0]) (_hn : Ints w w.heap.size na []) (_sn : nm.size ≤ 1000) (_s0 : r0.size ≤ 1000) :
    Calls Tryd.prog 43 #[.agg #[.int .i64 10, .string nm, .slice ra 1 rc, .slice na 0 nc, .int .i64 bY, .bool al]] w
      fun e w' => e = .returned (.string (r0)) ∧ Below w.heap.size w w' := by
  obtain ⟨b1, o1, rfl, hb1, hc1⟩ := hr.form (by simp)
  have x0 := hc1 0 (by simp)
  simp at x0
  clear hc1
  go_enter Tryd.func43, Tryd.ntmps43
  go_wp2_with fail
  go_quiet (fail)
  go_wp2_with fail
  go_ret
  exact ⟨rfl, by first | exact below_drawn (below_drawn ((Below.refl _ _).alloc (Nat.le_refl _) _) _) _ | exact below_drawn ((Below.refl _ _).alloc (Nat.le_refl _) _) _⟩

set_option maxRecDepth 100000 in
set_option maxHeartbeats 2000000 in
theorem body11t (nm : ByteArray) (ra : Option Addr) (r0 : ByteArray) (rc : Nat) (na : Option Addr) (n0 : Int) (nc : Nat) (bY : Int) (w : World) (hr : Strs w w.heap.size ra [r0]) (hn : Ints w w.heap.size na [n0]) (_sn : nm.size ≤ 1000) (s0 : r0.size ≤ 1000) (k0 : numOk n0 = true) :
    Calls Tryd.prog 43 #[.agg #[.int .i64 11, .string nm, .slice ra 1 rc, .slice na 1 nc, .int .i64 bY, .bool true]] w
      fun e w' => e = .returned (.string (r0 ++ (⟨#[32]⟩ : ByteArray) ++ itoaS n0 ++ (⟨#[32, 97, 108, 119, 97, 121, 115]⟩ : ByteArray))) ∧ Below w.heap.size w w' := by
  have z0 := itoaS_len k0
  have l0 := numOk_le k0
  obtain ⟨b1, o1, rfl, hb1, hc1⟩ := hr.form (by simp)
  have x0 := hc1 0 (by simp)
  simp at x0
  clear hc1
  obtain ⟨b2, o2, rfl, hb2, hc2⟩ := hn.form (by simp)
  have y0 := hc2 0 (by simp)
  simp at y0
  clear hc2
  go_enter Tryd.func43, Tryd.ntmps43
  go_wp2_with fail
  go_quiet (fail)
  go_wp2_with fail
  have eB : Below w.heap.size w (w.alloc (.cells #[.int .i64 11, .string nm, .slice (some ⟨b1, o1, none⟩) 1 rc, .slice (some ⟨b2, o2, none⟩) 1 nc, .int .i64 bY, .bool true] 38)) := (Below.refl _ _).alloc (Nat.le_refl _) _
  have eZ : w.heap.size < (w.alloc (.cells #[.int .i64 11, .string nm, .slice (some ⟨b1, o1, none⟩) 1 rc, .slice (some ⟨b2, o2, none⟩) 1 nc, .int .i64 bY, .bool true] 38)).heap.size := by simp
  have e0 : (w.alloc (.cells #[.int .i64 11, .string nm, .slice (some ⟨b1, o1, none⟩) 1 rc, .slice (some ⟨b2, o2, none⟩) 1 nc, .int .i64 bY, .bool true] 38)).cell? ⟨b1, o1, none⟩ = some (.string r0) := (World.cell?_alloc_lt _ _ _ hb1).trans x0
  have e1 : (w.alloc (.cells #[.int .i64 11, .string nm, .slice (some ⟨b1, o1, none⟩) 1 rc, .slice (some ⟨b2, o2, none⟩) 1 nc, .int .i64 bY, .bool true] 38)).cell? ⟨b2, o2, none⟩ = some (.int .i64 n0) := (World.cell?_alloc_lt _ _ _ hb2).trans y0
  clear x0 y0
  generalize (w.alloc (.cells #[.int .i64 11, .string nm, .slice (some ⟨b1, o1, none⟩) 1 rc, .slice (some ⟨b2, o2, none⟩) 1 nc, .int .i64 bY, .bool true] 38)) = W at *
  have eB := below_drawn eB nq
  have eZ : w.heap.size < (W.drewN nq).heap.size := by simpa using eZ
  have e0 : (W.drewN nq).cell? ⟨b1, o1, none⟩ = some (.string r0) := by simpa using e0
  have e1 : (W.drewN nq).cell? ⟨b2, o2, none⟩ = some (.int .i64 n0) := by simpa using e1
  generalize W.drewN nq = W at *
  have hz0 : ((⟨#[32]⟩ : ByteArray) : ByteArray).size ≤ 1 := Nat.le_refl _
  have q1 : ∀ W, (Op.stringOp .add (r0) (⟨#[32]⟩ : ByteArray)).run Tryd.prog W = .ok (.string (r0 ++ (⟨#[32]⟩ : ByteArray))) W := fun W => run_string_add_sum W _ _ (by first | omega | (simp only [ByteArray.size_append]; omega))
  have q3 : ∀ W, (Op.stringOp .add (r0 ++ (⟨#[32]⟩ : ByteArray)) (itoaS n0)).run Tryd.prog W = .ok (.string (r0 ++ (⟨#[32]⟩ : ByteArray) ++ itoaS n0)) W := fun W => run_string_add_sum W _ _ (by first | omega | (simp only [ByteArray.size_append]; omega))
  have hz4 : ((⟨#[32, 97, 108, 119, 97, 121, 115]⟩ : ByteArray) : ByteArray).size ≤ 7 := Nat.le_refl _
  have q5 : ∀ W, (Op.stringOp .add (r0 ++ (⟨#[32]⟩ : ByteArray) ++ itoaS n0) (⟨#[32, 97, 108, 119, 97, 121, 115]⟩ : ByteArray)).run Tryd.prog W = .ok (.string (r0 ++ (⟨#[32]⟩ : ByteArray) ++ itoaS n0 ++ (⟨#[32, 97, 108, 119, 97, 121, 115]⟩ : ByteArray))) W := fun W => run_string_add_sum W _ _ (by first | omega | (simp only [ByteArray.size_append]; omega))
  go_region_held3 (fun X => X.cell? ⟨b1, o1, none⟩ = some (.string r0) ∧ X.cell? ⟨b2, o2, none⟩ = some (.int .i64 n0) ∧ w.heap.size < X.heap.size ∧ Below w.heap.size w X) ((first | (go_keep; done) | (refine ⟨?_, ?_, ?_, ?_⟩ <;> (first | assumption | exact eB.drew | exact eZ | exact e0 | exact e1 | (simp; omega))))) ((first | (go_at_call 97; have hH := (by assumption : _ ∧ _ ∧ w.heap.size < _ ∧ Below w.heap.size w _); obtain ⟨a0, a1, aZ, aB⟩ := hH; refine (decimal_ref _ _ (by omega) (by omega)).mono ?_; rintro e w1 ⟨rfl, hb⟩; have c0 := (hb.cell (p := ⟨b1, o1, none⟩) (by simp; omega)).trans a0; have c1 := (hb.cell (p := ⟨b2, o2, none⟩) (by simp; omega)).trans a1; have cZ := Nat.lt_of_lt_of_le aZ hb.size; have cB := aB.trans (hb.mono aB.size); clear a0 a1 aZ aB hb)))
  all_goals
    go_wp2_with fail
    go_ret
    exact ⟨rfl, by first | exact cB | exact eB.drew | exact eB⟩

set_option maxRecDepth 100000 in
set_option maxHeartbeats 2000000 in
theorem body11f (nm : ByteArray) (ra : Option Addr) (r0 : ByteArray) (rc : Nat) (na : Option Addr) (n0 : Int) (nc : Nat) (bY : Int) (w : World) (hr : Strs w w.heap.size ra [r0]) (hn : Ints w w.heap.size na [n0]) (_sn : nm.size ≤ 1000) (s0 : r0.size ≤ 1000) (k0 : numOk n0 = true) :
    Calls Tryd.prog 43 #[.agg #[.int .i64 11, .string nm, .slice ra 1 rc, .slice na 1 nc, .int .i64 bY, .bool false]] w
      fun e w' => e = .returned (.string (r0 ++ (⟨#[32]⟩ : ByteArray) ++ itoaS n0)) ∧ Below w.heap.size w w' := by
  have z0 := itoaS_len k0
  have l0 := numOk_le k0
  obtain ⟨b1, o1, rfl, hb1, hc1⟩ := hr.form (by simp)
  have x0 := hc1 0 (by simp)
  simp at x0
  clear hc1
  obtain ⟨b2, o2, rfl, hb2, hc2⟩ := hn.form (by simp)
  have y0 := hc2 0 (by simp)
  simp at y0
  clear hc2
  go_enter Tryd.func43, Tryd.ntmps43
  go_wp2_with fail
  go_quiet (fail)
  go_wp2_with fail
  have eB : Below w.heap.size w (w.alloc (.cells #[.int .i64 11, .string nm, .slice (some ⟨b1, o1, none⟩) 1 rc, .slice (some ⟨b2, o2, none⟩) 1 nc, .int .i64 bY, .bool false] 38)) := (Below.refl _ _).alloc (Nat.le_refl _) _
  have eZ : w.heap.size < (w.alloc (.cells #[.int .i64 11, .string nm, .slice (some ⟨b1, o1, none⟩) 1 rc, .slice (some ⟨b2, o2, none⟩) 1 nc, .int .i64 bY, .bool false] 38)).heap.size := by simp
  have e0 : (w.alloc (.cells #[.int .i64 11, .string nm, .slice (some ⟨b1, o1, none⟩) 1 rc, .slice (some ⟨b2, o2, none⟩) 1 nc, .int .i64 bY, .bool false] 38)).cell? ⟨b1, o1, none⟩ = some (.string r0) := (World.cell?_alloc_lt _ _ _ hb1).trans x0
  have e1 : (w.alloc (.cells #[.int .i64 11, .string nm, .slice (some ⟨b1, o1, none⟩) 1 rc, .slice (some ⟨b2, o2, none⟩) 1 nc, .int .i64 bY, .bool false] 38)).cell? ⟨b2, o2, none⟩ = some (.int .i64 n0) := (World.cell?_alloc_lt _ _ _ hb2).trans y0
  clear x0 y0
  generalize (w.alloc (.cells #[.int .i64 11, .string nm, .slice (some ⟨b1, o1, none⟩) 1 rc, .slice (some ⟨b2, o2, none⟩) 1 nc, .int .i64 bY, .bool false] 38)) = W at *
  have eB := below_drawn eB nq
  have eZ : w.heap.size < (W.drewN nq).heap.size := by simpa using eZ
  have e0 : (W.drewN nq).cell? ⟨b1, o1, none⟩ = some (.string r0) := by simpa using e0
  have e1 : (W.drewN nq).cell? ⟨b2, o2, none⟩ = some (.int .i64 n0) := by simpa using e1
  generalize W.drewN nq = W at *
  have hz0 : ((⟨#[32]⟩ : ByteArray) : ByteArray).size ≤ 1 := Nat.le_refl _
  have q1 : ∀ W, (Op.stringOp .add (r0) (⟨#[32]⟩ : ByteArray)).run Tryd.prog W = .ok (.string (r0 ++ (⟨#[32]⟩ : ByteArray))) W := fun W => run_string_add_sum W _ _ (by first | omega | (simp only [ByteArray.size_append]; omega))
  have q3 : ∀ W, (Op.stringOp .add (r0 ++ (⟨#[32]⟩ : ByteArray)) (itoaS n0)).run Tryd.prog W = .ok (.string (r0 ++ (⟨#[32]⟩ : ByteArray) ++ itoaS n0)) W := fun W => run_string_add_sum W _ _ (by first | omega | (simp only [ByteArray.size_append]; omega))
  go_region_held3 (fun X => X.cell? ⟨b1, o1, none⟩ = some (.string r0) ∧ X.cell? ⟨b2, o2, none⟩ = some (.int .i64 n0) ∧ w.heap.size < X.heap.size ∧ Below w.heap.size w X) ((first | (go_keep; done) | (refine ⟨?_, ?_, ?_, ?_⟩ <;> (first | assumption | exact eB.drew | exact eZ | exact e0 | exact e1 | (simp; omega))))) ((first | (go_at_call 97; have hH := (by assumption : _ ∧ _ ∧ w.heap.size < _ ∧ Below w.heap.size w _); obtain ⟨a0, a1, aZ, aB⟩ := hH; refine (decimal_ref _ _ (by omega) (by omega)).mono ?_; rintro e w1 ⟨rfl, hb⟩; have c0 := (hb.cell (p := ⟨b1, o1, none⟩) (by simp; omega)).trans a0; have c1 := (hb.cell (p := ⟨b2, o2, none⟩) (by simp; omega)).trans a1; have cZ := Nat.lt_of_lt_of_le aZ hb.size; have cB := aB.trans (hb.mono aB.size); clear a0 a1 aZ aB hb)))
  all_goals
    go_wp2_with fail
    go_ret
    exact ⟨rfl, by first | exact cB | exact eB.drew | exact eB⟩

set_option maxRecDepth 100000 in
set_option maxHeartbeats 2000000 in
theorem body14 (nm : ByteArray) (ra : Option Addr) (r0 : ByteArray) (r1 : ByteArray) (rc : Nat) (na : Option Addr) (nc : Nat) (bY : Int) (al : Bool) (w : World) (hr : Strs w w.heap.size ra [r0, r1]) (_hn : Ints w w.heap.size na []) (_sn : nm.size ≤ 1000) (s0 : r0.size ≤ 1000) (s1 : r1.size ≤ 1000) :
    Calls Tryd.prog 43 #[.agg #[.int .i64 14, .string nm, .slice ra 2 rc, .slice na 0 nc, .int .i64 bY, .bool al]] w
      fun e w' => e = .returned (.string (r0 ++ (⟨#[32, 98, 101, 102, 111, 114, 101, 32]⟩ : ByteArray) ++ r1)) ∧ Below w.heap.size w w' := by
  obtain ⟨b1, o1, rfl, hb1, hc1⟩ := hr.form (by simp)
  have x0 := hc1 0 (by simp)
  simp at x0
  have x1 := hc1 1 (by simp)
  simp at x1
  clear hc1
  have hz0 : ((⟨#[32, 98, 101, 102, 111, 114, 101, 32]⟩ : ByteArray) : ByteArray).size ≤ 8 := Nat.le_refl _
  have q1 : ∀ W, (Op.stringOp .add (r0) (⟨#[32, 98, 101, 102, 111, 114, 101, 32]⟩ : ByteArray)).run Tryd.prog W = .ok (.string (r0 ++ (⟨#[32, 98, 101, 102, 111, 114, 101, 32]⟩ : ByteArray))) W := fun W => run_string_add_sum W _ _ (by first | omega | (simp only [ByteArray.size_append]; omega))
  have q3 : ∀ W, (Op.stringOp .add (r0 ++ (⟨#[32, 98, 101, 102, 111, 114, 101, 32]⟩ : ByteArray)) r1).run Tryd.prog W = .ok (.string (r0 ++ (⟨#[32, 98, 101, 102, 111, 114, 101, 32]⟩ : ByteArray) ++ r1)) W := fun W => run_string_add_sum W _ _ (by first | omega | (simp only [ByteArray.size_append]; omega))
  go_enter Tryd.func43, Tryd.ntmps43
  go_wp2_with fail
  go_quiet (fail)
  go_wp2_with fail
  go_quiet (fail)
  go_wp2_with fail
  go_ret
  exact ⟨rfl, by first | exact below_drawn (below_drawn ((Below.refl _ _).alloc (Nat.le_refl _) _) _) _ | exact below_drawn ((Below.refl _ _).alloc (Nat.le_refl _) _) _⟩

set_option maxRecDepth 100000 in
set_option maxHeartbeats 2000000 in
theorem body16 (nm : ByteArray) (ra : Option Addr) (r0 : ByteArray) (rc : Nat) (na : Option Addr) (n0 : Int) (nc : Nat) (bY : Int) (al : Bool) (w : World) (hr : Strs w w.heap.size ra [r0]) (hn : Ints w w.heap.size na [n0]) (_sn : nm.size ≤ 1000) (s0 : r0.size ≤ 1000) (k0 : numOk n0 = true) :
    Calls Tryd.prog 43 #[.agg #[.int .i64 16, .string nm, .slice ra 1 rc, .slice na 1 nc, .int .i64 bY, .bool al]] w
      fun e w' => e = .returned (.string (r0 ++ (⟨#[32]⟩ : ByteArray) ++ itoaS n0)) ∧ Below w.heap.size w w' := by
  have z0 := itoaS_len k0
  have l0 := numOk_le k0
  obtain ⟨b1, o1, rfl, hb1, hc1⟩ := hr.form (by simp)
  have x0 := hc1 0 (by simp)
  simp at x0
  clear hc1
  obtain ⟨b2, o2, rfl, hb2, hc2⟩ := hn.form (by simp)
  have y0 := hc2 0 (by simp)
  simp at y0
  clear hc2
  go_enter Tryd.func43, Tryd.ntmps43
  go_wp2_with fail
  go_quiet (fail)
  go_wp2_with fail
  have eB : Below w.heap.size w (w.alloc (.cells #[.int .i64 16, .string nm, .slice (some ⟨b1, o1, none⟩) 1 rc, .slice (some ⟨b2, o2, none⟩) 1 nc, .int .i64 bY, .bool al] 38)) := (Below.refl _ _).alloc (Nat.le_refl _) _
  have eZ : w.heap.size < (w.alloc (.cells #[.int .i64 16, .string nm, .slice (some ⟨b1, o1, none⟩) 1 rc, .slice (some ⟨b2, o2, none⟩) 1 nc, .int .i64 bY, .bool al] 38)).heap.size := by simp
  have e0 : (w.alloc (.cells #[.int .i64 16, .string nm, .slice (some ⟨b1, o1, none⟩) 1 rc, .slice (some ⟨b2, o2, none⟩) 1 nc, .int .i64 bY, .bool al] 38)).cell? ⟨b1, o1, none⟩ = some (.string r0) := (World.cell?_alloc_lt _ _ _ hb1).trans x0
  have e1 : (w.alloc (.cells #[.int .i64 16, .string nm, .slice (some ⟨b1, o1, none⟩) 1 rc, .slice (some ⟨b2, o2, none⟩) 1 nc, .int .i64 bY, .bool al] 38)).cell? ⟨b2, o2, none⟩ = some (.int .i64 n0) := (World.cell?_alloc_lt _ _ _ hb2).trans y0
  clear x0 y0
  generalize (w.alloc (.cells #[.int .i64 16, .string nm, .slice (some ⟨b1, o1, none⟩) 1 rc, .slice (some ⟨b2, o2, none⟩) 1 nc, .int .i64 bY, .bool al] 38)) = W at *
  have eB := below_drawn eB nq
  have eZ : w.heap.size < (W.drewN nq).heap.size := by simpa using eZ
  have e0 : (W.drewN nq).cell? ⟨b1, o1, none⟩ = some (.string r0) := by simpa using e0
  have e1 : (W.drewN nq).cell? ⟨b2, o2, none⟩ = some (.int .i64 n0) := by simpa using e1
  generalize W.drewN nq = W at *
  have hz0 : ((⟨#[32]⟩ : ByteArray) : ByteArray).size ≤ 1 := Nat.le_refl _
  have q1 : ∀ W, (Op.stringOp .add (r0) (⟨#[32]⟩ : ByteArray)).run Tryd.prog W = .ok (.string (r0 ++ (⟨#[32]⟩ : ByteArray))) W := fun W => run_string_add_sum W _ _ (by first | omega | (simp only [ByteArray.size_append]; omega))
  have q3 : ∀ W, (Op.stringOp .add (r0 ++ (⟨#[32]⟩ : ByteArray)) (itoaS n0)).run Tryd.prog W = .ok (.string (r0 ++ (⟨#[32]⟩ : ByteArray) ++ itoaS n0)) W := fun W => run_string_add_sum W _ _ (by first | omega | (simp only [ByteArray.size_append]; omega))
  go_region_held3 (fun X => X.cell? ⟨b1, o1, none⟩ = some (.string r0) ∧ X.cell? ⟨b2, o2, none⟩ = some (.int .i64 n0) ∧ w.heap.size < X.heap.size ∧ Below w.heap.size w X) ((first | (go_keep; done) | (refine ⟨?_, ?_, ?_, ?_⟩ <;> (first | assumption | exact eB.drew | exact eZ | exact e0 | exact e1 | (simp; omega))))) ((first | (go_at_call 97; have hH := (by assumption : _ ∧ _ ∧ w.heap.size < _ ∧ Below w.heap.size w _); obtain ⟨a0, a1, aZ, aB⟩ := hH; refine (decimal_ref _ _ (by omega) (by omega)).mono ?_; rintro e w1 ⟨rfl, hb⟩; have c0 := (hb.cell (p := ⟨b1, o1, none⟩) (by simp; omega)).trans a0; have c1 := (hb.cell (p := ⟨b2, o2, none⟩) (by simp; omega)).trans a1; have cZ := Nat.lt_of_lt_of_le aZ hb.size; have cB := aB.trans (hb.mono aB.size); clear a0 a1 aZ aB hb)))
  all_goals
    go_wp2_with fail
    go_ret
    exact ⟨rfl, by first | exact cB | exact eB.drew | exact eB⟩

set_option maxRecDepth 100000 in
set_option maxHeartbeats 2000000 in
theorem body5 (nm : ByteArray) (ra : Option Addr) (refs : List ByteArray) (rc : Nat) (na : Option Addr) (n0 : Int) (n1 : Int) (n2 : Int) (nc : Nat) (bY : Int) (al : Bool) (w : World) (hr : Strs w w.heap.size ra refs) (hn : Ints w w.heap.size na [n0, n1, n2]) (sn : nm.size ≤ 1000) (k0 : numOk n0 = true) (k1 : numOk n1 = true) (k2 : numOk n2 = true) (hl : refs.length ≤ 1000) (hs : ∀ s ∈ refs, s.size ≤ 1000) (hj : (joinS refs (⟨#[44, 32]⟩ : ByteArray)).size ≤ 10000) :
    Calls Tryd.prog 43 #[.agg #[.int .i64 5, .string nm, .slice ra refs.length rc, .slice na 3 nc, .int .i64 bY, .bool al]] w
      fun e w' => e = .returned (.string (nm ++ (⟨#[32, 111, 110, 32]⟩ : ByteArray) ++ joinS refs (⟨#[44, 32]⟩ : ByteArray) ++ unitT n0 n1 n2)) ∧ Below w.heap.size w w' := by
  have z0 := itoaS_len k0
  have l0 := numOk_le k0
  have z1 := itoaS_len k1
  have l1 := numOk_le k1
  have z2 := itoaS_len k2
  have l2 := numOk_le k2
  obtain ⟨b2, o2, rfl, hb2, hc2⟩ := hn.form (by simp)
  have y0 := hc2 0 (by simp)
  simp at y0
  have y1 := hc2 1 (by simp)
  simp at y1
  have y2 := hc2 2 (by simp)
  simp at y2
  clear hc2
  have zu := unitT_size k0 k1 k2
  go_enter Tryd.func43, Tryd.ntmps43
  go_wp2_with fail
  go_quiet (fail)
  go_wp2_with fail
  have eB : Below w.heap.size w (w.alloc (.cells #[.int .i64 5, .string nm, .slice ra refs.length rc, .slice (some ⟨b2, o2, none⟩) 3 nc, .int .i64 bY, .bool al] 38)) := (Below.refl _ _).alloc (Nat.le_refl _) _
  have eZ : w.heap.size < (w.alloc (.cells #[.int .i64 5, .string nm, .slice ra refs.length rc, .slice (some ⟨b2, o2, none⟩) 3 nc, .int .i64 bY, .bool al] 38)).heap.size := by simp
  have e0 : (w.alloc (.cells #[.int .i64 5, .string nm, .slice ra refs.length rc, .slice (some ⟨b2, o2, none⟩) 3 nc, .int .i64 bY, .bool al] 38)).cell? ⟨w.heap.size, 1, none⟩ = some (.string nm) := cell?_new _ _ _ _
  have e1 : (w.alloc (.cells #[.int .i64 5, .string nm, .slice ra refs.length rc, .slice (some ⟨b2, o2, none⟩) 3 nc, .int .i64 bY, .bool al] 38)).cell? ⟨b2, o2, none⟩ = some (.int .i64 n0) := (World.cell?_alloc_lt _ _ _ hb2).trans y0
  have e2 : (w.alloc (.cells #[.int .i64 5, .string nm, .slice ra refs.length rc, .slice (some ⟨b2, o2, none⟩) 3 nc, .int .i64 bY, .bool al] 38)).cell? ⟨b2, o2 + 1, none⟩ = some (.int .i64 n1) := (World.cell?_alloc_lt _ _ _ hb2).trans y1
  have e3 : (w.alloc (.cells #[.int .i64 5, .string nm, .slice ra refs.length rc, .slice (some ⟨b2, o2, none⟩) 3 nc, .int .i64 bY, .bool al] 38)).cell? ⟨b2, o2 + 2, none⟩ = some (.int .i64 n2) := (World.cell?_alloc_lt _ _ _ hb2).trans y2
  clear y0 y1 y2
  generalize (w.alloc (.cells #[.int .i64 5, .string nm, .slice ra refs.length rc, .slice (some ⟨b2, o2, none⟩) 3 nc, .int .i64 bY, .bool al] 38)) = W at *
  have eB := below_drawn eB nq
  have eZ : w.heap.size < (W.drewN nq).heap.size := by simpa using eZ
  have e0 : (W.drewN nq).cell? ⟨w.heap.size, 1, none⟩ = some (.string nm) := by simpa using e0
  have e1 : (W.drewN nq).cell? ⟨b2, o2, none⟩ = some (.int .i64 n0) := by simpa using e1
  have e2 : (W.drewN nq).cell? ⟨b2, o2 + 1, none⟩ = some (.int .i64 n1) := by simpa using e2
  have e3 : (W.drewN nq).cell? ⟨b2, o2 + 2, none⟩ = some (.int .i64 n2) := by simpa using e3
  generalize W.drewN nq = W at *
  have hz0 : ((⟨#[32, 111, 110, 32]⟩ : ByteArray) : ByteArray).size ≤ 4 := Nat.le_refl _
  have q1 : ∀ W, (Op.stringOp .add (nm) (⟨#[32, 111, 110, 32]⟩ : ByteArray)).run Tryd.prog W = .ok (.string (nm ++ (⟨#[32, 111, 110, 32]⟩ : ByteArray))) W := fun W => run_string_add_sum W _ _ (by first | omega | (simp only [ByteArray.size_append]; omega))
  have q3 : ∀ W, (Op.stringOp .add (nm ++ (⟨#[32, 111, 110, 32]⟩ : ByteArray)) (joinS refs (⟨#[44, 32]⟩ : ByteArray))).run Tryd.prog W = .ok (.string (nm ++ (⟨#[32, 111, 110, 32]⟩ : ByteArray) ++ joinS refs (⟨#[44, 32]⟩ : ByteArray))) W := fun W => run_string_add_sum W _ _ (by first | omega | (simp only [ByteArray.size_append]; omega))
  have q5 : ∀ W, (Op.stringOp .add (nm ++ (⟨#[32, 111, 110, 32]⟩ : ByteArray) ++ joinS refs (⟨#[44, 32]⟩ : ByteArray)) (unitT n0 n1 n2)).run Tryd.prog W = .ok (.string (nm ++ (⟨#[32, 111, 110, 32]⟩ : ByteArray) ++ joinS refs (⟨#[44, 32]⟩ : ByteArray) ++ unitT n0 n1 n2)) W := fun W => run_string_add_sum W _ _ (by first | omega | (simp only [ByteArray.size_append]; omega))
  go_region_held3 (fun X => X.cell? ⟨w.heap.size, 1, none⟩ = some (.string nm) ∧ X.cell? ⟨b2, o2, none⟩ = some (.int .i64 n0) ∧ X.cell? ⟨b2, o2 + 1, none⟩ = some (.int .i64 n1) ∧ X.cell? ⟨b2, o2 + 2, none⟩ = some (.int .i64 n2) ∧ w.heap.size < X.heap.size ∧ Below w.heap.size w X) ((first | (go_keep; done) | (refine ⟨?_, ?_, ?_, ?_, ?_, ?_⟩ <;> (first | assumption | exact eB.drew | exact eZ | exact e0 | exact e1 | exact e2 | exact e3 | (simp; omega))))) ((first | (go_at_call 98; have hH := (by assumption : _ ∧ _ ∧ _ ∧ _ ∧ w.heap.size < _ ∧ Below w.heap.size w _); obtain ⟨a0, a1, a2, a3, aZ, aB⟩ := hH; refine (list_ref ra rc refs _ ((hr.below aB).more aB.size) hl hs).mono ?_; rintro e w1 ⟨rfl, rfl⟩) | (go_at_call 99; have hH := (by assumption : _ ∧ _ ∧ _ ∧ _ ∧ w.heap.size < _ ∧ Below w.heap.size w _); obtain ⟨a0, a1, a2, a3, aZ, aB⟩ := hH; refine (unit_ref _ n0 n1 n2 _ _ ((hn.below aB).more aB.size) k0 k1 k2).mono ?_; rintro e w1 ⟨rfl, hb⟩; have c0 := (hb.cell (p := ⟨w.heap.size, 1, none⟩) (by simp; omega)).trans a0; have c1 := (hb.cell (p := ⟨b2, o2, none⟩) (by simp; omega)).trans a1; have c2 := (hb.cell (p := ⟨b2, o2 + 1, none⟩) (by simp; omega)).trans a2; have c3 := (hb.cell (p := ⟨b2, o2 + 2, none⟩) (by simp; omega)).trans a3; have cZ := Nat.lt_of_lt_of_le aZ hb.size; have cB := aB.trans (hb.mono aB.size); clear a0 a1 a2 a3 aZ aB hb)))
  all_goals
    go_wp2_with fail
    go_ret
    exact ⟨rfl, by first | exact cB | exact eB.drew | exact eB⟩

set_option maxRecDepth 100000 in
set_option maxHeartbeats 2000000 in
theorem body7 (nm : ByteArray) (ra : Option Addr) (refs : List ByteArray) (rc : Nat) (na : Option Addr) (n0 : Int) (n1 : Int) (n2 : Int) (nc : Nat) (bY : Int) (al : Bool) (w : World) (hr : Strs w w.heap.size ra refs) (hn : Ints w w.heap.size na [n0, n1, n2]) (sn : nm.size ≤ 1000) (k0 : numOk n0 = true) (k1 : numOk n1 = true) (k2 : numOk n2 = true) (hl : refs.length ≤ 1000) (hs : ∀ s ∈ refs, s.size ≤ 1000) (hj : (joinS refs (⟨#[44, 32]⟩ : ByteArray)).size ≤ 10000) :
    Calls Tryd.prog 43 #[.agg #[.int .i64 7, .string nm, .slice ra refs.length rc, .slice na 3 nc, .int .i64 bY, .bool al]] w
      fun e w' => e = .returned (.string (nm ++ (⟨#[32, 111, 110, 32]⟩ : ByteArray) ++ joinS refs (⟨#[44, 32]⟩ : ByteArray) ++ unitT n0 n1 n2)) ∧ Below w.heap.size w w' := by
  have z0 := itoaS_len k0
  have l0 := numOk_le k0
  have z1 := itoaS_len k1
  have l1 := numOk_le k1
  have z2 := itoaS_len k2
  have l2 := numOk_le k2
  obtain ⟨b2, o2, rfl, hb2, hc2⟩ := hn.form (by simp)
  have y0 := hc2 0 (by simp)
  simp at y0
  have y1 := hc2 1 (by simp)
  simp at y1
  have y2 := hc2 2 (by simp)
  simp at y2
  clear hc2
  have zu := unitT_size k0 k1 k2
  go_enter Tryd.func43, Tryd.ntmps43
  go_wp2_with fail
  go_quiet (fail)
  go_wp2_with fail
  have eB : Below w.heap.size w (w.alloc (.cells #[.int .i64 7, .string nm, .slice ra refs.length rc, .slice (some ⟨b2, o2, none⟩) 3 nc, .int .i64 bY, .bool al] 38)) := (Below.refl _ _).alloc (Nat.le_refl _) _
  have eZ : w.heap.size < (w.alloc (.cells #[.int .i64 7, .string nm, .slice ra refs.length rc, .slice (some ⟨b2, o2, none⟩) 3 nc, .int .i64 bY, .bool al] 38)).heap.size := by simp
  have e0 : (w.alloc (.cells #[.int .i64 7, .string nm, .slice ra refs.length rc, .slice (some ⟨b2, o2, none⟩) 3 nc, .int .i64 bY, .bool al] 38)).cell? ⟨w.heap.size, 1, none⟩ = some (.string nm) := cell?_new _ _ _ _
  have e1 : (w.alloc (.cells #[.int .i64 7, .string nm, .slice ra refs.length rc, .slice (some ⟨b2, o2, none⟩) 3 nc, .int .i64 bY, .bool al] 38)).cell? ⟨b2, o2, none⟩ = some (.int .i64 n0) := (World.cell?_alloc_lt _ _ _ hb2).trans y0
  have e2 : (w.alloc (.cells #[.int .i64 7, .string nm, .slice ra refs.length rc, .slice (some ⟨b2, o2, none⟩) 3 nc, .int .i64 bY, .bool al] 38)).cell? ⟨b2, o2 + 1, none⟩ = some (.int .i64 n1) := (World.cell?_alloc_lt _ _ _ hb2).trans y1
  have e3 : (w.alloc (.cells #[.int .i64 7, .string nm, .slice ra refs.length rc, .slice (some ⟨b2, o2, none⟩) 3 nc, .int .i64 bY, .bool al] 38)).cell? ⟨b2, o2 + 2, none⟩ = some (.int .i64 n2) := (World.cell?_alloc_lt _ _ _ hb2).trans y2
  clear y0 y1 y2
  generalize (w.alloc (.cells #[.int .i64 7, .string nm, .slice ra refs.length rc, .slice (some ⟨b2, o2, none⟩) 3 nc, .int .i64 bY, .bool al] 38)) = W at *
  have eB := below_drawn eB nq
  have eZ : w.heap.size < (W.drewN nq).heap.size := by simpa using eZ
  have e0 : (W.drewN nq).cell? ⟨w.heap.size, 1, none⟩ = some (.string nm) := by simpa using e0
  have e1 : (W.drewN nq).cell? ⟨b2, o2, none⟩ = some (.int .i64 n0) := by simpa using e1
  have e2 : (W.drewN nq).cell? ⟨b2, o2 + 1, none⟩ = some (.int .i64 n1) := by simpa using e2
  have e3 : (W.drewN nq).cell? ⟨b2, o2 + 2, none⟩ = some (.int .i64 n2) := by simpa using e3
  generalize W.drewN nq = W at *
  have hz0 : ((⟨#[32, 111, 110, 32]⟩ : ByteArray) : ByteArray).size ≤ 4 := Nat.le_refl _
  have q1 : ∀ W, (Op.stringOp .add (nm) (⟨#[32, 111, 110, 32]⟩ : ByteArray)).run Tryd.prog W = .ok (.string (nm ++ (⟨#[32, 111, 110, 32]⟩ : ByteArray))) W := fun W => run_string_add_sum W _ _ (by first | omega | (simp only [ByteArray.size_append]; omega))
  have q3 : ∀ W, (Op.stringOp .add (nm ++ (⟨#[32, 111, 110, 32]⟩ : ByteArray)) (joinS refs (⟨#[44, 32]⟩ : ByteArray))).run Tryd.prog W = .ok (.string (nm ++ (⟨#[32, 111, 110, 32]⟩ : ByteArray) ++ joinS refs (⟨#[44, 32]⟩ : ByteArray))) W := fun W => run_string_add_sum W _ _ (by first | omega | (simp only [ByteArray.size_append]; omega))
  have q5 : ∀ W, (Op.stringOp .add (nm ++ (⟨#[32, 111, 110, 32]⟩ : ByteArray) ++ joinS refs (⟨#[44, 32]⟩ : ByteArray)) (unitT n0 n1 n2)).run Tryd.prog W = .ok (.string (nm ++ (⟨#[32, 111, 110, 32]⟩ : ByteArray) ++ joinS refs (⟨#[44, 32]⟩ : ByteArray) ++ unitT n0 n1 n2)) W := fun W => run_string_add_sum W _ _ (by first | omega | (simp only [ByteArray.size_append]; omega))
  go_region_held3 (fun X => X.cell? ⟨w.heap.size, 1, none⟩ = some (.string nm) ∧ X.cell? ⟨b2, o2, none⟩ = some (.int .i64 n0) ∧ X.cell? ⟨b2, o2 + 1, none⟩ = some (.int .i64 n1) ∧ X.cell? ⟨b2, o2 + 2, none⟩ = some (.int .i64 n2) ∧ w.heap.size < X.heap.size ∧ Below w.heap.size w X) ((first | (go_keep; done) | (refine ⟨?_, ?_, ?_, ?_, ?_, ?_⟩ <;> (first | assumption | exact eB.drew | exact eZ | exact e0 | exact e1 | exact e2 | exact e3 | (simp; omega))))) ((first | (go_at_call 98; have hH := (by assumption : _ ∧ _ ∧ _ ∧ _ ∧ w.heap.size < _ ∧ Below w.heap.size w _); obtain ⟨a0, a1, a2, a3, aZ, aB⟩ := hH; refine (list_ref ra rc refs _ ((hr.below aB).more aB.size) hl hs).mono ?_; rintro e w1 ⟨rfl, rfl⟩) | (go_at_call 99; have hH := (by assumption : _ ∧ _ ∧ _ ∧ _ ∧ w.heap.size < _ ∧ Below w.heap.size w _); obtain ⟨a0, a1, a2, a3, aZ, aB⟩ := hH; refine (unit_ref _ n0 n1 n2 _ _ ((hn.below aB).more aB.size) k0 k1 k2).mono ?_; rintro e w1 ⟨rfl, hb⟩; have c0 := (hb.cell (p := ⟨w.heap.size, 1, none⟩) (by simp; omega)).trans a0; have c1 := (hb.cell (p := ⟨b2, o2, none⟩) (by simp; omega)).trans a1; have c2 := (hb.cell (p := ⟨b2, o2 + 1, none⟩) (by simp; omega)).trans a2; have c3 := (hb.cell (p := ⟨b2, o2 + 2, none⟩) (by simp; omega)).trans a3; have cZ := Nat.lt_of_lt_of_le aZ hb.size; have cB := aB.trans (hb.mono aB.size); clear a0 a1 a2 a3 aZ aB hb)))
  all_goals
    go_wp2_with fail
    go_ret
    exact ⟨rfl, by first | exact cB | exact eB.drew | exact eB⟩

set_option maxRecDepth 100000 in
set_option maxHeartbeats 2000000 in
theorem body6 (nm : ByteArray) (ra : Option Addr) (refs : List ByteArray) (rc : Nat) (na : Option Addr) (n0 : Int) (n1 : Int) (n2 : Int) (n3 : Int) (nc : Nat) (bY : Int) (al : Bool) (w : World) (hr : Strs w w.heap.size ra refs) (hn : Ints w w.heap.size na [n0, n1, n2, n3]) (sn : nm.size ≤ 1000) (k0 : numOk n0 = true) (k1 : numOk n1 = true) (k2 : numOk n2 = true) (k3 : numOk n3 = true) (hl : refs.length ≤ 1000) (hs : ∀ s ∈ refs, s.size ≤ 1000) (hj : (joinS refs (⟨#[44, 32]⟩ : ByteArray)).size ≤ 10000) (hnc : 4 ≤ nc) :
    Calls Tryd.prog 43 #[.agg #[.int .i64 6, .string nm, .slice ra refs.length rc, .slice na 4 nc, .int .i64 bY, .bool al]] w
      fun e w' => e = .returned (.string (nm ++ (⟨#[32]⟩ : ByteArray) ++ itoaS n0 ++ (⟨#[32, 111, 110, 32]⟩ : ByteArray) ++ joinS refs (⟨#[44, 32]⟩ : ByteArray) ++ unitT n1 n2 n3)) ∧ Below w.heap.size w w' := by
  have z0 := itoaS_len k0
  have l0 := numOk_le k0
  have z1 := itoaS_len k1
  have l1 := numOk_le k1
  have z2 := itoaS_len k2
  have l2 := numOk_le k2
  have z3 := itoaS_len k3
  have l3 := numOk_le k3
  obtain ⟨b2, o2, rfl, hb2, hc2⟩ := hn.form (by simp)
  have y0 := hc2 0 (by simp)
  simp at y0
  have y1 := hc2 1 (by simp)
  simp at y1
  have y2 := hc2 2 (by simp)
  simp at y2
  have y3 := hc2 3 (by simp)
  simp at y3
  clear hc2
  have zu := unitT_size k1 k2 k3
  have hn3 : Ints w w.heap.size (some ⟨b2, o2 + 1, none⟩) [n1, n2, n3] := ⟨by simp, fun _ => ⟨_, rfl, hb2, fun j u hu => by
    rcases j with _ | _ | _ | j
    · simp at hu; subst hu; exact y1
    · simp at hu; subst hu; rw [add_none]; exact y2
    · simp at hu; subst hu; rw [add_none]; exact y3
    · simp at hu⟩⟩
  go_enter Tryd.func43, Tryd.ntmps43
  go_wp2_with fail
  go_quiet (fail)
  go_wp2_with fail
  have eB : Below w.heap.size w (w.alloc (.cells #[.int .i64 6, .string nm, .slice ra refs.length rc, .slice (some ⟨b2, o2, none⟩) 4 nc, .int .i64 bY, .bool al] 38)) := (Below.refl _ _).alloc (Nat.le_refl _) _
  have eZ : w.heap.size < (w.alloc (.cells #[.int .i64 6, .string nm, .slice ra refs.length rc, .slice (some ⟨b2, o2, none⟩) 4 nc, .int .i64 bY, .bool al] 38)).heap.size := by simp
  have e0 : (w.alloc (.cells #[.int .i64 6, .string nm, .slice ra refs.length rc, .slice (some ⟨b2, o2, none⟩) 4 nc, .int .i64 bY, .bool al] 38)).cell? ⟨w.heap.size, 1, none⟩ = some (.string nm) := cell?_new _ _ _ _
  have e1 : (w.alloc (.cells #[.int .i64 6, .string nm, .slice ra refs.length rc, .slice (some ⟨b2, o2, none⟩) 4 nc, .int .i64 bY, .bool al] 38)).cell? ⟨b2, o2, none⟩ = some (.int .i64 n0) := (World.cell?_alloc_lt _ _ _ hb2).trans y0
  have e2 : (w.alloc (.cells #[.int .i64 6, .string nm, .slice ra refs.length rc, .slice (some ⟨b2, o2, none⟩) 4 nc, .int .i64 bY, .bool al] 38)).cell? ⟨b2, o2 + 1, none⟩ = some (.int .i64 n1) := (World.cell?_alloc_lt _ _ _ hb2).trans y1
  have e3 : (w.alloc (.cells #[.int .i64 6, .string nm, .slice ra refs.length rc, .slice (some ⟨b2, o2, none⟩) 4 nc, .int .i64 bY, .bool al] 38)).cell? ⟨b2, o2 + 2, none⟩ = some (.int .i64 n2) := (World.cell?_alloc_lt _ _ _ hb2).trans y2
  have e4 : (w.alloc (.cells #[.int .i64 6, .string nm, .slice ra refs.length rc, .slice (some ⟨b2, o2, none⟩) 4 nc, .int .i64 bY, .bool al] 38)).cell? ⟨b2, o2 + 3, none⟩ = some (.int .i64 n3) := (World.cell?_alloc_lt _ _ _ hb2).trans y3
  clear y0 y1 y2 y3
  generalize (w.alloc (.cells #[.int .i64 6, .string nm, .slice ra refs.length rc, .slice (some ⟨b2, o2, none⟩) 4 nc, .int .i64 bY, .bool al] 38)) = W at *
  have eB := below_drawn eB nq
  have eZ : w.heap.size < (W.drewN nq).heap.size := by simpa using eZ
  have e0 : (W.drewN nq).cell? ⟨w.heap.size, 1, none⟩ = some (.string nm) := by simpa using e0
  have e1 : (W.drewN nq).cell? ⟨b2, o2, none⟩ = some (.int .i64 n0) := by simpa using e1
  have e2 : (W.drewN nq).cell? ⟨b2, o2 + 1, none⟩ = some (.int .i64 n1) := by simpa using e2
  have e3 : (W.drewN nq).cell? ⟨b2, o2 + 2, none⟩ = some (.int .i64 n2) := by simpa using e3
  have e4 : (W.drewN nq).cell? ⟨b2, o2 + 3, none⟩ = some (.int .i64 n3) := by simpa using e4
  generalize W.drewN nq = W at *
  have hz0 : ((⟨#[32]⟩ : ByteArray) : ByteArray).size ≤ 1 := Nat.le_refl _
  have q1 : ∀ W, (Op.stringOp .add (nm) (⟨#[32]⟩ : ByteArray)).run Tryd.prog W = .ok (.string (nm ++ (⟨#[32]⟩ : ByteArray))) W := fun W => run_string_add_sum W _ _ (by first | omega | (simp only [ByteArray.size_append]; omega))
  have q3 : ∀ W, (Op.stringOp .add (nm ++ (⟨#[32]⟩ : ByteArray)) (itoaS n0)).run Tryd.prog W = .ok (.string (nm ++ (⟨#[32]⟩ : ByteArray) ++ itoaS n0)) W := fun W => run_string_add_sum W _ _ (by first | omega | (simp only [ByteArray.size_append]; omega))
  have hz4 : ((⟨#[32, 111, 110, 32]⟩ : ByteArray) : ByteArray).size ≤ 4 := Nat.le_refl _
  have q5 : ∀ W, (Op.stringOp .add (nm ++ (⟨#[32]⟩ : ByteArray) ++ itoaS n0) (⟨#[32, 111, 110, 32]⟩ : ByteArray)).run Tryd.prog W = .ok (.string (nm ++ (⟨#[32]⟩ : ByteArray) ++ itoaS n0 ++ (⟨#[32, 111, 110, 32]⟩ : ByteArray))) W := fun W => run_string_add_sum W _ _ (by first | omega | (simp only [ByteArray.size_append]; omega))
  have q7 : ∀ W, (Op.stringOp .add (nm ++ (⟨#[32]⟩ : ByteArray) ++ itoaS n0 ++ (⟨#[32, 111, 110, 32]⟩ : ByteArray)) (joinS refs (⟨#[44, 32]⟩ : ByteArray))).run Tryd.prog W = .ok (.string (nm ++ (⟨#[32]⟩ : ByteArray) ++ itoaS n0 ++ (⟨#[32, 111, 110, 32]⟩ : ByteArray) ++ joinS refs (⟨#[44, 32]⟩ : ByteArray))) W := fun W => run_string_add_sum W _ _ (by first | omega | (simp only [ByteArray.size_append]; omega))
  have q9 : ∀ W, (Op.stringOp .add (nm ++ (⟨#[32]⟩ : ByteArray) ++ itoaS n0 ++ (⟨#[32, 111, 110, 32]⟩ : ByteArray) ++ joinS refs (⟨#[44, 32]⟩ : ByteArray)) (unitT n1 n2 n3)).run Tryd.prog W = .ok (.string (nm ++ (⟨#[32]⟩ : ByteArray) ++ itoaS n0 ++ (⟨#[32, 111, 110, 32]⟩ : ByteArray) ++ joinS refs (⟨#[44, 32]⟩ : ByteArray) ++ unitT n1 n2 n3)) W := fun W => run_string_add_sum W _ _ (by first | omega | (simp only [ByteArray.size_append]; omega))
  go_region_held3 (fun X => X.cell? ⟨w.heap.size, 1, none⟩ = some (.string nm) ∧ X.cell? ⟨b2, o2, none⟩ = some (.int .i64 n0) ∧ X.cell? ⟨b2, o2 + 1, none⟩ = some (.int .i64 n1) ∧ X.cell? ⟨b2, o2 + 2, none⟩ = some (.int .i64 n2) ∧ X.cell? ⟨b2, o2 + 3, none⟩ = some (.int .i64 n3) ∧ w.heap.size < X.heap.size ∧ Below w.heap.size w X) ((first | (go_keep; done) | (refine ⟨?_, ?_, ?_, ?_, ?_, ?_, ?_⟩ <;> (first | assumption | exact eB.drew | exact eZ | exact e0 | exact e1 | exact e2 | exact e3 | exact e4 | (simp; omega))))) ((first | (go_at_call 97; have hH := (by assumption : _ ∧ _ ∧ _ ∧ _ ∧ _ ∧ w.heap.size < _ ∧ Below w.heap.size w _); obtain ⟨a0, a1, a2, a3, a4, aZ, aB⟩ := hH; refine (decimal_ref _ _ (by omega) (by omega)).mono ?_; rintro e w1 ⟨rfl, hb⟩; have c0 := (hb.cell (p := ⟨w.heap.size, 1, none⟩) (by simp; omega)).trans a0; have c1 := (hb.cell (p := ⟨b2, o2, none⟩) (by simp; omega)).trans a1; have c2 := (hb.cell (p := ⟨b2, o2 + 1, none⟩) (by simp; omega)).trans a2; have c3 := (hb.cell (p := ⟨b2, o2 + 2, none⟩) (by simp; omega)).trans a3; have c4 := (hb.cell (p := ⟨b2, o2 + 3, none⟩) (by simp; omega)).trans a4; have cZ := Nat.lt_of_lt_of_le aZ hb.size; have cB := aB.trans (hb.mono aB.size); clear a0 a1 a2 a3 a4 aZ aB hb) | (go_at_call 98; have hH := (by assumption : _ ∧ _ ∧ _ ∧ _ ∧ _ ∧ w.heap.size < _ ∧ Below w.heap.size w _); obtain ⟨a0, a1, a2, a3, a4, aZ, aB⟩ := hH; refine (list_ref ra rc refs _ ((hr.below aB).more aB.size) hl hs).mono ?_; rintro e w1 ⟨rfl, rfl⟩) | (go_at_call 99; have hH := (by assumption : _ ∧ _ ∧ _ ∧ _ ∧ _ ∧ w.heap.size < _ ∧ Below w.heap.size w _); obtain ⟨a0, a1, a2, a3, a4, aZ, aB⟩ := hH; refine (unit_ref _ n1 n2 n3 _ _ ((hn3.below aB).more aB.size) k1 k2 k3).mono ?_; rintro e w1 ⟨rfl, hb⟩; have c0 := (hb.cell (p := ⟨w.heap.size, 1, none⟩) (by simp; omega)).trans a0; have c1 := (hb.cell (p := ⟨b2, o2, none⟩) (by simp; omega)).trans a1; have c2 := (hb.cell (p := ⟨b2, o2 + 1, none⟩) (by simp; omega)).trans a2; have c3 := (hb.cell (p := ⟨b2, o2 + 2, none⟩) (by simp; omega)).trans a3; have c4 := (hb.cell (p := ⟨b2, o2 + 3, none⟩) (by simp; omega)).trans a4; have cZ := Nat.lt_of_lt_of_le aZ hb.size; have cB := aB.trans (hb.mono aB.size); clear a0 a1 a2 a3 a4 aZ aB hb)))
  all_goals
    go_wp2_with fail
    go_ret
    exact ⟨rfl, by first | exact cB | exact eB.drew | exact eB⟩

set_option maxRecDepth 100000 in
set_option maxHeartbeats 2000000 in
theorem body15 (nm : ByteArray) (ra : Option Addr) (rc : Nat) (na : Option Addr) (n0 : Int) (nc : Nat) (bY : Int) (al : Bool) (w : World) (_hr : Strs w w.heap.size ra []) (hn : Ints w w.heap.size na [n0]) (_sn : nm.size ≤ 1000) (k0 : numOk n0 = true) :
    Calls Tryd.prog 43 #[.agg #[.int .i64 15, .string nm, .slice ra 0 rc, .slice na 1 nc, .int .i64 bY, .bool al]] w
      fun e w' => e = .returned (.string (itoaS n0)) ∧ Below w.heap.size w w' := by
  have z0 := itoaS_len k0
  have l0 := numOk_le k0
  obtain ⟨b2, o2, rfl, hb2, hc2⟩ := hn.form (by simp)
  have y0 := hc2 0 (by simp)
  simp at y0
  clear hc2
  go_enter Tryd.func43, Tryd.ntmps43
  go_wp2_with fail
  go_quiet (fail)
  go_wp2_with (go_at_call 97; refine (decimal_ref _ _ (by omega) (by omega)).mono ?_; rintro e w1 ⟨rfl, hb⟩)
  go_ret
  exact ⟨rfl, (below_drawn ((Below.refl _ _).alloc (Nat.le_refl _) _) _).trans (hb.mono (by simp))⟩

set_option maxRecDepth 100000 in
set_option maxHeartbeats 2000000 in
theorem body9 (nm : ByteArray) (ra : Option Addr) (rc : Nat) (na : Option Addr) (nc : Nat) (bY : Int) (al : Bool) (w : World) (_hr : Strs w w.heap.size ra []) (_hn : Ints w w.heap.size na []) (_sn : nm.size ≤ 1000) (hb1 : 1 ≤ bY) (hb7 : bY ≤ 7) :
    Calls Tryd.prog 43 #[.agg #[.int .i64 9, .string nm, .slice ra 0 rc, .slice na 0 nc, .int .i64 bY, .bool al]] w
      fun e w' => e = .returned (.string (joinS (clsW bY.toNat) (⟨#[44, 32]⟩ : ByteArray))) ∧ Below w.heap.size w w' := by
  have hcl : (clsW bY.toNat).length ≤ 1000 ∧ ∀ s ∈ clsW bY.toNat, s.size ≤ 1000 := clsW_small hb1 hb7
  go_enter Tryd.func43, Tryd.ntmps43
  go_wp2_with fail
  go_quiet (fail)
  go_wp2_with (first | (go_at_call 100; refine (classes_ref bY _ hb1 hb7).mono ?_; rintro e w1 ⟨v, rfl, hO, hb⟩; obtain ⟨A, c, rfl, hA⟩ := hO.form) | (go_at_call 98; refine (list_ref A c (clsW bY.toNat) _ hA hcl.1 hcl.2).mono ?_; rintro e w2 ⟨rfl, rfl⟩))
  go_ret
  exact ⟨rfl, (below_drawn ((Below.refl _ _).alloc (Nat.le_refl _) _) _).trans (hb.mono (by simp))⟩

set_option maxRecDepth 100000 in
set_option maxHeartbeats 2000000 in
theorem body12 (nm : ByteArray) (ra : Option Addr) (r0 : ByteArray) (rc : Nat) (na : Option Addr) (n0 : Int) (nc : Nat) (bY : Int) (al : Bool) (w : World) (hr : Strs w w.heap.size ra [r0]) (hn : Ints w w.heap.size na [n0]) (_sn : nm.size ≤ 1000) (s0 : r0.size ≤ 1000) (k0 : numOk n0 = true) :
    Calls Tryd.prog 43 #[.agg #[.int .i64 12, .string nm, .slice ra 1 rc, .slice na 1 nc, .int .i64 bY, .bool al]] w
      fun e w' => e = .returned (.string (r0 ++ (⟨#[32, 98, 121, 32]⟩ : ByteArray) ++ domR bY ++ (⟨#[32]⟩ : ByteArray) ++ itoaS n0)) ∧ Below w.heap.size w w' := by
  have z0 := itoaS_len k0
  have l0 := numOk_le k0
  obtain ⟨b1, o1, rfl, hb1, hc1⟩ := hr.form (by simp)
  have x0 := hc1 0 (by simp)
  simp at x0
  clear hc1
  obtain ⟨b2, o2, rfl, hb2, hc2⟩ := hn.form (by simp)
  have y0 := hc2 0 (by simp)
  simp at y0
  clear hc2
  have zd := domR_size bY
  go_enter Tryd.func43, Tryd.ntmps43
  go_wp2_with fail
  go_quiet (fail)
  go_wp2_with fail
  have eB : Below w.heap.size w (w.alloc (.cells #[.int .i64 12, .string nm, .slice (some ⟨b1, o1, none⟩) 1 rc, .slice (some ⟨b2, o2, none⟩) 1 nc, .int .i64 bY, .bool al] 38)) := (Below.refl _ _).alloc (Nat.le_refl _) _
  have eZ : w.heap.size < (w.alloc (.cells #[.int .i64 12, .string nm, .slice (some ⟨b1, o1, none⟩) 1 rc, .slice (some ⟨b2, o2, none⟩) 1 nc, .int .i64 bY, .bool al] 38)).heap.size := by simp
  have e0 : (w.alloc (.cells #[.int .i64 12, .string nm, .slice (some ⟨b1, o1, none⟩) 1 rc, .slice (some ⟨b2, o2, none⟩) 1 nc, .int .i64 bY, .bool al] 38)).cell? ⟨w.heap.size, 4, none⟩ = some (.int .i64 bY) := cell?_new _ _ _ _
  have e1 : (w.alloc (.cells #[.int .i64 12, .string nm, .slice (some ⟨b1, o1, none⟩) 1 rc, .slice (some ⟨b2, o2, none⟩) 1 nc, .int .i64 bY, .bool al] 38)).cell? ⟨b1, o1, none⟩ = some (.string r0) := (World.cell?_alloc_lt _ _ _ hb1).trans x0
  have e2 : (w.alloc (.cells #[.int .i64 12, .string nm, .slice (some ⟨b1, o1, none⟩) 1 rc, .slice (some ⟨b2, o2, none⟩) 1 nc, .int .i64 bY, .bool al] 38)).cell? ⟨b2, o2, none⟩ = some (.int .i64 n0) := (World.cell?_alloc_lt _ _ _ hb2).trans y0
  clear x0 y0
  generalize (w.alloc (.cells #[.int .i64 12, .string nm, .slice (some ⟨b1, o1, none⟩) 1 rc, .slice (some ⟨b2, o2, none⟩) 1 nc, .int .i64 bY, .bool al] 38)) = W at *
  have eB := below_drawn eB nq
  have eZ : w.heap.size < (W.drewN nq).heap.size := by simpa using eZ
  have e0 : (W.drewN nq).cell? ⟨w.heap.size, 4, none⟩ = some (.int .i64 bY) := by simpa using e0
  have e1 : (W.drewN nq).cell? ⟨b1, o1, none⟩ = some (.string r0) := by simpa using e1
  have e2 : (W.drewN nq).cell? ⟨b2, o2, none⟩ = some (.int .i64 n0) := by simpa using e2
  generalize W.drewN nq = W at *
  have hz0 : ((⟨#[32, 98, 121, 32]⟩ : ByteArray) : ByteArray).size ≤ 4 := Nat.le_refl _
  have q1 : ∀ W, (Op.stringOp .add (r0) (⟨#[32, 98, 121, 32]⟩ : ByteArray)).run Tryd.prog W = .ok (.string (r0 ++ (⟨#[32, 98, 121, 32]⟩ : ByteArray))) W := fun W => run_string_add_sum W _ _ (by first | omega | (simp only [ByteArray.size_append]; omega))
  have q3 : ∀ W, (Op.stringOp .add (r0 ++ (⟨#[32, 98, 121, 32]⟩ : ByteArray)) (domR bY)).run Tryd.prog W = .ok (.string (r0 ++ (⟨#[32, 98, 121, 32]⟩ : ByteArray) ++ domR bY)) W := fun W => run_string_add_sum W _ _ (by first | omega | (simp only [ByteArray.size_append]; omega))
  have hz4 : ((⟨#[32]⟩ : ByteArray) : ByteArray).size ≤ 1 := Nat.le_refl _
  have q5 : ∀ W, (Op.stringOp .add (r0 ++ (⟨#[32, 98, 121, 32]⟩ : ByteArray) ++ domR bY) (⟨#[32]⟩ : ByteArray)).run Tryd.prog W = .ok (.string (r0 ++ (⟨#[32, 98, 121, 32]⟩ : ByteArray) ++ domR bY ++ (⟨#[32]⟩ : ByteArray))) W := fun W => run_string_add_sum W _ _ (by first | omega | (simp only [ByteArray.size_append]; omega))
  have q7 : ∀ W, (Op.stringOp .add (r0 ++ (⟨#[32, 98, 121, 32]⟩ : ByteArray) ++ domR bY ++ (⟨#[32]⟩ : ByteArray)) (itoaS n0)).run Tryd.prog W = .ok (.string (r0 ++ (⟨#[32, 98, 121, 32]⟩ : ByteArray) ++ domR bY ++ (⟨#[32]⟩ : ByteArray) ++ itoaS n0)) W := fun W => run_string_add_sum W _ _ (by first | omega | (simp only [ByteArray.size_append]; omega))
  go_region_held3 (fun X => X.cell? ⟨w.heap.size, 4, none⟩ = some (.int .i64 bY) ∧ X.cell? ⟨b1, o1, none⟩ = some (.string r0) ∧ X.cell? ⟨b2, o2, none⟩ = some (.int .i64 n0) ∧ w.heap.size < X.heap.size ∧ Below w.heap.size w X) ((first | (go_keep; done) | (refine ⟨?_, ?_, ?_, ?_, ?_⟩ <;> (first | assumption | exact eB.drew | exact eZ | exact e0 | exact e1 | exact e2 | (simp; omega))))) ((first | (go_at_call 97; have hH := (by assumption : _ ∧ _ ∧ _ ∧ w.heap.size < _ ∧ Below w.heap.size w _); obtain ⟨a0, a1, a2, aZ, aB⟩ := hH; refine (decimal_ref _ _ (by omega) (by omega)).mono ?_; rintro e w1 ⟨rfl, hb⟩; have c0 := (hb.cell (p := ⟨w.heap.size, 4, none⟩) (by simp; omega)).trans a0; have c1 := (hb.cell (p := ⟨b1, o1, none⟩) (by simp; omega)).trans a1; have c2 := (hb.cell (p := ⟨b2, o2, none⟩) (by simp; omega)).trans a2; have cZ := Nat.lt_of_lt_of_le aZ hb.size; have cB := aB.trans (hb.mono aB.size); clear a0 a1 a2 aZ aB hb) | (go_at_call 101; have hH := (by assumption : _ ∧ _ ∧ _ ∧ w.heap.size < _ ∧ Below w.heap.size w _); obtain ⟨a0, a1, a2, aZ, aB⟩ := hH; refine (domain_ref bY _).mono ?_; rintro e w1 ⟨rfl, rfl⟩)))
  all_goals
    go_wp2_with fail
    go_ret
    exact ⟨rfl, by first | exact cB | exact eB.drew | exact eB⟩

set_option maxRecDepth 100000 in
set_option maxHeartbeats 2000000 in
theorem body13 (nm : ByteArray) (ra : Option Addr) (r0 : ByteArray) (rest : List ByteArray) (rc : Nat) (na : Option Addr) (nc : Nat) (bY : Int) (al : Bool) (w : World) (hr : Strs w w.heap.size ra (r0 :: rest)) (_hn : Ints w w.heap.size na []) (_sn : nm.size ≤ 1000) (hrc : rest.length + 1 ≤ rc) (h1 : 1 ≤ rest.length) (hl : rest.length ≤ 1000) (hs : ∀ s ∈ rest, s.size ≤ 1000) (hj : (joinS rest (⟨#[44, 32]⟩ : ByteArray)).size ≤ 10000) (s0 : r0.size ≤ 1000) :
    Calls Tryd.prog 43 #[.agg #[.int .i64 13, .string nm, .slice ra (rest.length + 1) rc, .slice na 0 nc, .int .i64 bY, .bool al]] w
      fun e w' => e = .returned (.string (r0 ++ (⟨#[32, 111, 110, 32]⟩ : ByteArray) ++ joinS rest (⟨#[44, 32]⟩ : ByteArray))) ∧ Below w.heap.size w w' := by
  obtain ⟨b1, o1, rfl, hb1, hc1⟩ := hr.form (by simp)
  have x0 := hc1 0 (by simp)
  simp at x0
  have hrest : Strs w w.heap.size (some ⟨b1, o1 + 1, none⟩) rest := ⟨by simp, fun _ => ⟨_, rfl, hb1, fun j u hu => by
    have hj : j < rest.length := by have := (List.getElem?_eq_some_iff.1 hu).1; simpa using this
    have := hc1 (j + 1) (by simp; omega)
    simp [hj] at this hu
    subst hu
    rw [add_none, show o1 + 1 + j = o1 + (j + 1) by omega]
    exact this⟩⟩
  clear hc1
  have hsl : ∀ W, (Instr.sliceAt 35 (.slice (some ⟨b1, o1, none⟩) (rest.length + 1) rc) (some (.int .i64 1)) none none).run Tryd.prog W = .ok (.slice (some ⟨b1, o1 + 1, none⟩) rest.length (rc - 1)) W := by
    intro W
    have e1 : (1 : Int) ≤ (rest.length : Int) + 1 := by omega
    have e3 : ¬ rc = 1 := by omega
    simp [go_sem, e1, e3]
  go_enter Tryd.func43, Tryd.ntmps43
  go_wp2_with fail
  go_quiet (fail)
  go_wp2_with fail
  have eB : Below w.heap.size w (w.alloc (.cells #[.int .i64 13, .string nm, .slice (some ⟨b1, o1, none⟩) (rest.length + 1) rc, .slice na 0 nc, .int .i64 bY, .bool al] 38)) := (Below.refl _ _).alloc (Nat.le_refl _) _
  have eZ : w.heap.size < (w.alloc (.cells #[.int .i64 13, .string nm, .slice (some ⟨b1, o1, none⟩) (rest.length + 1) rc, .slice na 0 nc, .int .i64 bY, .bool al] 38)).heap.size := by simp
  have e0 : (w.alloc (.cells #[.int .i64 13, .string nm, .slice (some ⟨b1, o1, none⟩) (rest.length + 1) rc, .slice na 0 nc, .int .i64 bY, .bool al] 38)).cell? ⟨b1, o1, none⟩ = some (.string r0) := (World.cell?_alloc_lt _ _ _ hb1).trans x0
  clear x0
  generalize (w.alloc (.cells #[.int .i64 13, .string nm, .slice (some ⟨b1, o1, none⟩) (rest.length + 1) rc, .slice na 0 nc, .int .i64 bY, .bool al] 38)) = W at *
  have eB := below_drawn eB nq
  have eZ : w.heap.size < (W.drewN nq).heap.size := by simpa using eZ
  have e0 : (W.drewN nq).cell? ⟨b1, o1, none⟩ = some (.string r0) := by simpa using e0
  generalize W.drewN nq = W at *
  have hz0 : ((⟨#[32, 111, 110, 32]⟩ : ByteArray) : ByteArray).size ≤ 4 := Nat.le_refl _
  have q1 : ∀ W, (Op.stringOp .add (r0) (⟨#[32, 111, 110, 32]⟩ : ByteArray)).run Tryd.prog W = .ok (.string (r0 ++ (⟨#[32, 111, 110, 32]⟩ : ByteArray))) W := fun W => run_string_add_sum W _ _ (by first | omega | (simp only [ByteArray.size_append]; omega))
  have q3 : ∀ W, (Op.stringOp .add (r0 ++ (⟨#[32, 111, 110, 32]⟩ : ByteArray)) (joinS rest (⟨#[44, 32]⟩ : ByteArray))).run Tryd.prog W = .ok (.string (r0 ++ (⟨#[32, 111, 110, 32]⟩ : ByteArray) ++ joinS rest (⟨#[44, 32]⟩ : ByteArray))) W := fun W => run_string_add_sum W _ _ (by first | omega | (simp only [ByteArray.size_append]; omega))
  go_region_held3 (fun X => X.cell? ⟨b1, o1, none⟩ = some (.string r0) ∧ w.heap.size < X.heap.size ∧ Below w.heap.size w X) ((first | (go_keep; done) | (refine ⟨?_, ?_, ?_⟩ <;> (first | assumption | exact eB.drew | exact eZ | exact e0 | (simp; omega))))) ((first | (go_at_call 98; have hH := (by assumption : _ ∧ w.heap.size < _ ∧ Below w.heap.size w _); obtain ⟨a0, aZ, aB⟩ := hH; refine (list_ref (some ⟨b1, o1 + 1, none⟩) _ rest _ ((hrest.below aB).more aB.size) hl hs).mono ?_; rintro e w1 ⟨rfl, rfl⟩)))
  all_goals
    go_wp2_with fail
    go_ret
    exact ⟨rfl, by first | exact cB | exact eB.drew | exact eB⟩

end Go.Proofs.YtanhkeeifnimgaaDoor
