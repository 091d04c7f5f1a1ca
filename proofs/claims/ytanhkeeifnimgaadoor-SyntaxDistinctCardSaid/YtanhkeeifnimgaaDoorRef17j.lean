/- The walks of exodusref17.body, KindName, Text, Format: the texts of declarations. Conditions: lengths that fit memory. -/
import Derived.Test.YtanhkeeifnimgaaDoorRef17i
import Derived.Test.YtanhkeeifnimgaaDoorText17
import Derived.Test.YtanhkeeifnimgaaDoorSyn17u
namespace Go.Proofs.YtanhkeeifnimgaaDoor
open Go Go.RowKit Go.Proofs

theorem names_joinS {refs : List ByteArray} (h : refs.all isName = true) (hl : refs.length ≤ 17) : (joinS refs (⟨#[44, 32]⟩ : ByteArray)).size ≤ 10000 := by
  have := join_len [44, 32] (refs.map (·.data.toList)) 31 (by
    intro x hx
    obtain ⟨s, hs, rfl⟩ := List.mem_map.1 hx
    have := isName_size (List.all_eq_true.1 h s hs)
    simpa using this)
  have h2 : (refs.map (·.data.toList)).length * (31 + 2) ≤ 17 * 33 := Nat.mul_le_mul (by simpa using hl) (by omega)
  show (Lib.join (refs.map (·.data.toList)) [44, 32]).toArray.size ≤ 10000
  simp at this h2 ⊢; omega
theorem name_le {refs : List ByteArray} (h : refs.all isName = true) : ∀ s ∈ refs, s.size ≤ 1000 := fun s hs => Nat.le_trans (isName_size (List.all_eq_true.1 h s hs)) (by omega)

set_option maxRecDepth 100000 in
theorem body_ref {k : Int} {f : Form} (hfm : form? k = some f) (nm : ByteArray) (ra : Option Addr) (refs : List ByteArray) (rc : Nat) (na : Option Addr) (nums : List Int) (nc : Nat) (bY : Int) (al : Bool) (w : World)
    (hv : validB k nm refs nums bY al = true) (hrc : refs.length ≤ rc) (hnc : nums.length ≤ nc) (hr : Strs w w.heap.size ra refs) (hn : Ints w w.heap.size na nums) :
    Calls Tryd.prog 43 #[.agg #[.int .i64 k, .string nm, .slice ra refs.length rc, .slice na nums.length nc, .int .i64 bY, .bool al]] w
      fun e w' => e = .returned (.string (bodyB k nm refs nums bY al)) ∧ Below w.heap.size w w' := by
  have hk0 : 0 ≤ k ∧ k < 17 := Classical.byContradiction fun hn => by rw [form_none hn] at hfm; cases hfm
  have hk : k = 0 ∨ k = 1 ∨ k = 2 ∨ k = 3 ∨ k = 4 ∨ k = 5 ∨ k = 6 ∨ k = 7 ∨ k = 8 ∨ k = 9 ∨ k = 10 ∨ k = 11 ∨ k = 12 ∨ k = 13 ∨ k = 14 ∨ k = 15 ∨ k = 16 := by omega
  rw [validB_form hfm] at hv
  simp only [Bool.and_eq_true, decide_eq_true_eq] at hv
  obtain ⟨⟨⟨⟨⟨⟨⟨h1, h2⟩, h3⟩, h4⟩, h5⟩, h6⟩, h7⟩, h8⟩ := hv
  have hS := name_le h7
  have sn : nm.size ≤ 1000 := by
    cases hq : f.name
    · rw [hq] at h6; have := (isEmpty_iff nm).1 h6; omega
    · rw [hq] at h6; have := isName_size h6; omega
  rcases hk with rfl | rfl | rfl | rfl | rfl | rfl | rfl | rfl | rfl | rfl | rfl | rfl | rfl | rfl | rfl | rfl | rfl
  all_goals
    obtain rfl : _ = f := Option.some.inj hfm
    simp only at h1 h2 h3
    try (have hq : nums.length = 0 := (by omega); obtain rfl := len0 hq)
    try (have hq : nums.length = 1 := (by omega); obtain ⟨n0, rfl⟩ := len1 hq)
    try (have hq : nums.length = 2 := (by omega); obtain ⟨n0, n1, rfl⟩ := len2 hq)
    try (have hq : nums.length = 3 := (by omega); obtain ⟨n0, n1, n2, rfl⟩ := len3 hq)
    try (have hq : nums.length = 4 := (by omega); obtain ⟨n0, n1, n2, n3, rfl⟩ := len4 hq)
    try (have hq : refs.length = 0 := (by omega); obtain rfl := len0 hq)
    try (have hq : refs.length = 2 := (by omega); obtain ⟨r0, r1, rfl⟩ := len2 hq)
    simp only [List.all_cons, List.all_nil, Bool.and_true, Bool.and_eq_true] at h8
  · exact body0 nm ra rc na nc bY al w hr hn sn
  · exact body1 nm ra rc na nc bY al w hr hn sn
  · exact body2 nm ra r0 r1 rc na nc bY al w hr hn sn (hS _ (by simp)) (hS _ (by simp))
  · obtain ⟨r0, rfl⟩ := len1 (l := refs) (by omega)
    exact body3 nm ra r0 rc na n0 nc bY al w hr hn sn (hS _ (by simp)) h8
  · exact body4 nm ra r0 r1 rc na n0 nc bY al w hr hn sn (hS _ (by simp)) (hS _ (by simp)) h8
  · exact body5 nm ra refs rc na n0 n1 n2 nc bY al w hr hn sn h8.1 h8.2.1 h8.2.2 (by omega) hS (names_joinS h7 (by omega))
  · exact body6 nm ra refs rc na n0 n1 n2 n3 nc bY al w hr hn sn h8.1 h8.2.1 h8.2.2.1 h8.2.2.2 (by omega) hS (names_joinS h7 (by omega)) hnc
  · exact body7 nm ra refs rc na n0 n1 n2 nc bY al w hr hn sn h8.1 h8.2.1 h8.2.2 (by omega) hS (names_joinS h7 (by omega))
  · obtain ⟨r0, rfl⟩ := len1 (l := refs) (by omega)
    exact body8 nm ra r0 rc na n0 n1 nc bY al w hr hn sn (hS _ (by simp)) h8.1 h8.2
  · simp only [Bool.and_eq_true, decide_eq_true_eq] at h4
    exact body9 nm ra rc na nc bY al w hr hn sn h4.1 h4.2
  · obtain ⟨r0, rfl⟩ := len1 (l := refs) (by omega)
    exact body10 nm ra r0 rc na nc bY al w hr hn sn (hS _ (by simp))
  · obtain ⟨r0, rfl⟩ := len1 (l := refs) (by omega)
    cases al
    · exact body11f nm ra r0 rc na n0 nc bY w hr hn sn (hS _ (by simp)) h8
    · exact body11t nm ra r0 rc na n0 nc bY w hr hn sn (hS _ (by simp)) h8
  · obtain ⟨r0, rfl⟩ := len1 (l := refs) (by omega)
    exact body12 nm ra r0 rc na n0 nc bY al w hr hn sn (hS _ (by simp)) h8
  · obtain ⟨r0, rest, rfl⟩ : ∃ r0 rest, refs = r0 :: rest := by
      cases refs with
      | nil => simp at h1
      | cons a l => exact ⟨a, l, rfl⟩
    simp only [List.length_cons] at h1 h2 hrc
    exact body13 nm ra r0 rest rc na nc bY al w hr hn sn hrc (by omega) (by omega) (fun s hs => hS s (by simp [hs])) (names_joinS (by simp only [List.all_cons, Bool.and_eq_true] at h7; exact h7.2) (by omega)) (hS _ (by simp))
  · exact body14 nm ra r0 r1 rc na nc bY al w hr hn sn (hS _ (by simp)) (hS _ (by simp))
  · exact body15 nm ra rc na n0 nc bY al w hr hn sn h8
  · obtain ⟨r0, rfl⟩ := len1 (l := refs) (by omega)
    exact body16 nm ra r0 rc na n0 nc bY al w hr hn sn (hS _ (by simp)) h8

def kindWords : List ByteArray := [(⟨#[115, 105, 116, 101]⟩ : ByteArray), (⟨#[102, 101, 101, 100]⟩ : ByteArray), (⟨#[114, 97, 99, 107]⟩ : ByteArray), (⟨#[109, 97, 99, 104, 105, 110, 101]⟩ : ByteArray), (⟨#[108, 105, 110, 107]⟩ : ByteArray), (⟨#[103, 114, 111, 117, 112]⟩ : ByteArray), (⟨#[112, 111, 111, 108]⟩ : ByteArray), (⟨#[106, 111, 98]⟩ : ByteArray), (⟨#[100, 97, 114, 107]⟩ : ByteArray), (⟨#[102, 97, 105, 108, 117, 114, 101, 115]⟩ : ByteArray), (⟨#[113, 117, 111, 114, 117, 109]⟩ : ByteArray), (⟨#[107, 101, 101, 112]⟩ : ByteArray), (⟨#[115, 112, 114, 101, 97, 100]⟩ : ByteArray), (⟨#[111, 110, 108, 121]⟩ : ByteArray), (⟨#[111, 114, 100, 101, 114]⟩ : ByteArray), (⟨#[100, 105, 115, 116, 117, 114, 98]⟩ : ByteArray), (⟨#[115, 105, 108, 101, 110, 99, 101]⟩ : ByteArray)]
theorem kindName_at {k : Nat} (h : k < 17) : kindName (k : Int) = kindWords[k]'h := by
  have : k = 0 ∨ k = 1 ∨ k = 2 ∨ k = 3 ∨ k = 4 ∨ k = 5 ∨ k = 6 ∨ k = 7 ∨ k = 8 ∨ k = 9 ∨ k = 10 ∨ k = 11 ∨ k = 12 ∨ k = 13 ∨ k = 14 ∨ k = 15 ∨ k = 16 := by omega
  rcases this with rfl | rfl | rfl | rfl | rfl | rfl | rfl | rfl | rfl | rfl | rfl | rfl | rfl | rfl | rfl | rfl | rfl <;> rfl
set_option maxRecDepth 100000 in
set_option maxHeartbeats 1000000 in
theorem kindName_ref (k : Int) (w : World) : Calls Tryd.prog 21 #[.int .i64 k] w fun e w' => e = .returned (.string (kindName k)) ∧ Below w.heap.size w w' := by
  by_cases hk : 0 ≤ k ∧ k < 17
  · obtain ⟨j, rfl⟩ := Int.eq_ofNat_of_zero_le hk.1
    have hj : j < 17 := by omega
    obtain ⟨ad, e, hb, hc⟩ := (Strs.newRow w 9 kindWords).at_ (k := j) hj
    obtain rfl := Option.some.inj e
    rw [add_none] at hc
    clear hb
    obtain ⟨h0, h1⟩ := hk
    simp only [kindWords, List.map_cons, List.map_nil] at hc
    have hcase : j = 0 ∨ j = 1 ∨ j = 2 ∨ j = 3 ∨ j = 4 ∨ j = 5 ∨ j = 6 ∨ j = 7 ∨ j = 8 ∨ j = 9 ∨ j = 10 ∨ j = 11 ∨ j = 12 ∨ j = 13 ∨ j = 14 ∨ j = 15 ∨ j = 16 := by omega
    have HJ := hide hcase
    clear hcase
    go_enter Tryd.func21, Tryd.ntmps21
    go_wp2_with fail
    go_ret
    refine ⟨ret_congr ?_, (Below.refl _ _).alloc (Nat.le_refl _) _⟩
    rcases HJ.out with rfl | rfl | rfl | rfl | rfl | rfl | rfl | rfl | rfl | rfl | rfl | rfl | rfl | rfl | rfl | rfl | rfl <;> rfl
  · have hfn := form_none hk
    have HK := hide (show kindName k = ⟨#[]⟩ by unfold kindName; rw [hfn])
    by_cases h0 : k < 0
    · go_enter Tryd.func21, Tryd.ntmps21
      go_wp2_with fail
      go_ret
      exact ⟨ret_congr (by rw [HK.out]; rfl), (Below.refl _ _).alloc (Nat.le_refl _) _⟩
    · have h1 : 17 ≤ k := by omega
      clear hk hfn
      go_enter Tryd.func21, Tryd.ntmps21
      go_wp2_with fail
      go_ret
      exact ⟨ret_congr (by rw [HK.out]; rfl), (Below.refl _ _).alloc (Nat.le_refl _) _⟩
end Go.Proofs.YtanhkeeifnimgaaDoor
