/- The walks of exodusref17.SameDecl and Same. Conditions: lengths that fit memory. -/
import Derived.Test.YtanhkeeifnimgaaDoorRef17d
namespace Go.Proofs.YtanhkeeifnimgaaDoor
open Go Go.RowKit Go.Proofs

set_option maxRecDepth 100000 in
set_option maxHeartbeats 4000000 in
theorem sameDecl_ref (a b : Decl) (ra : Option Addr) (rc : Nat) (na : Option Addr) (nc : Nat) (ra' : Option Addr) (rc' : Nat) (na' : Option Addr) (nc' : Nat) (w : World)
    (hr : Strs w w.heap.size ra a.refs) (hn : Ints w w.heap.size na a.nums) (hr' : Strs w w.heap.size ra' b.refs) (hn' : Ints w w.heap.size na' b.nums) (ha : Fine a) (hb : Fine b) :
    Calls Tryd.prog 31 #[.agg #[.int .i64 a.kind, .string a.name, .slice ra a.refs.length rc, .slice na a.nums.length nc, .int .i64 a.by_, .bool a.always], .agg #[.int .i64 b.kind, .string b.name, .slice ra' b.refs.length rc', .slice na' b.nums.length nc', .int .i64 b.by_, .bool b.always]] w
      fun e w' => e = .returned (.bool (sameD a b)) ∧ Below w.heap.size w w' := by
  obtain ⟨k, nm, refs, nums, bY, al⟩ := a
  obtain ⟨k', nm', refs', nums', bY', al'⟩ := b
  have HA := hide ha
  have HB := hide hb
  clear ha hb
  simp only []
  by_cases h1 : k = k'
  rotate_left
  · have HS := hide (show sameD ⟨k, nm, refs, nums, bY, al⟩ ⟨k', nm', refs', nums', bY', al'⟩ = false by simp [sameD, h1])
    go_enter Tryd.func31, Tryd.ntmps31
    go_wp2_with fail
    go_ret
    exact ⟨ret_congr (by rw [HS.out]; rfl), ((Below.refl _ _).alloc (Nat.le_refl _) _).alloc (by simp) _⟩
  subst h1
  by_cases h2 : nm = nm'
  rotate_left
  · have HS := hide (show sameD ⟨k, nm, refs, nums, bY, al⟩ ⟨k, nm', refs', nums', bY', al'⟩ = false by simp [sameD, h2])
    have h2' := toList_beq_false h2
    clear h2
    go_enter Tryd.func31, Tryd.ntmps31
    go_wp2_with fail
    go_ret
    exact ⟨ret_congr (by rw [HS.out]; rfl), ((Below.refl _ _).alloc (Nat.le_refl _) _).alloc (by simp) _⟩
  subst h2
  have hT1 : ((w.alloc (.cells #[.int .i64 k, .string nm, .slice ra refs.length rc, .slice na nums.length nc, .int .i64 bY, .bool al] 38)).alloc (.cells #[.int .i64 k, .string nm, .slice ra' refs'.length rc', .slice na' nums'.length nc', .int .i64 bY', .bool al'] 38)).cell? ⟨w.heap.size + 1, 3, none⟩ = some (.slice na' nums'.length nc') := by
    have := cell?_new (w.alloc (.cells #[.int .i64 k, .string nm, .slice ra refs.length rc, .slice na nums.length nc, .int .i64 bY, .bool al] 38)) #[.int .i64 k, .string nm, .slice ra' refs'.length rc', .slice na' nums'.length nc', .int .i64 bY', .bool al'] 38 3
    simp at this ⊢
  have hT2 : ((w.alloc (.cells #[.int .i64 k, .string nm, .slice ra refs.length rc, .slice na nums.length nc, .int .i64 bY, .bool al] 38)).alloc (.cells #[.int .i64 k, .string nm, .slice ra' refs'.length rc', .slice na' nums'.length nc', .int .i64 bY', .bool al'] 38)).cell? ⟨w.heap.size + 1, 4, none⟩ = some (.int .i64 bY') := by
    have := cell?_new (w.alloc (.cells #[.int .i64 k, .string nm, .slice ra refs.length rc, .slice na nums.length nc, .int .i64 bY, .bool al] 38)) #[.int .i64 k, .string nm, .slice ra' refs'.length rc', .slice na' nums'.length nc', .int .i64 bY', .bool al'] 38 4
    simp at this ⊢
  have hT3 : ((w.alloc (.cells #[.int .i64 k, .string nm, .slice ra refs.length rc, .slice na nums.length nc, .int .i64 bY, .bool al] 38)).alloc (.cells #[.int .i64 k, .string nm, .slice ra' refs'.length rc', .slice na' nums'.length nc', .int .i64 bY', .bool al'] 38)).cell? ⟨w.heap.size + 1, 5, none⟩ = some (.bool al') := by
    have := cell?_new (w.alloc (.cells #[.int .i64 k, .string nm, .slice ra refs.length rc, .slice na nums.length nc, .int .i64 bY, .bool al] 38)) #[.int .i64 k, .string nm, .slice ra' refs'.length rc', .slice na' nums'.length nc', .int .i64 bY', .bool al'] 38 5
    simp at this ⊢
  have hQ : ∀ j u, #[.int .i64 k, .string nm, .slice ra refs.length rc, .slice na nums.length nc, .int .i64 bY, .bool al][j]? = some u → ((w.alloc (.cells #[.int .i64 k, .string nm, .slice ra refs.length rc, .slice na nums.length nc, .int .i64 bY, .bool al] 38)).alloc (.cells #[.int .i64 k, .string nm, .slice ra' refs'.length rc', .slice na' nums'.length nc', .int .i64 bY', .bool al'] 38)).cell? ⟨w.heap.size, j, none⟩ = some u := fun j u hu => by
    refine (World.cell?_alloc_lt _ _ _ (by simp)).trans ?_
    rw [cell?_new]; exact hu
  have hP3 := hQ 3 _ rfl
  have hP4 := hQ 4 _ rfl
  have hP5 := hQ 5 _ rfl
  have G := hide (And.intro (And.intro hT1 (And.intro hT2 hT3)) (And.intro hP3 (And.intro hP4 hP5)))
  clear hT1 hT2 hT3 hP3 hP4 hP5 hQ
  have HE1 := (fun X hX hX' => texts_ref ra ra' rc rc' refs refs' X hX hX' HA.out.2.2.1 HB.out.2.2.1)
  have HE2 := (fun X hX hX' => ints_ref na na' nc nc' nums nums' X hX hX' HA.out.2.2.2 HB.out.2.2.2)
  by_cases h3 : refs = refs'
  rotate_left
  · have HS := hide (show sameD ⟨k, nm, refs, nums, bY, al⟩ ⟨k, nm, refs', nums', bY', al'⟩ = false by simp [sameD, h3])
    rw [show decide (refs = refs') = false by simp [h3]] at HE1
    have HE1 := hide HE1
    clear h3 HE2
    go_enter Tryd.func31, Tryd.ntmps31
    go_wp2_with (go_at_call 58; refine (HE1.out _ (((hr.keep (fun p hp => (World.cell?_alloc_lt _ _ _ (by simp; omega)).trans (World.cell?_alloc_lt _ _ _ hp))).more (by simp; omega))) (((hr'.keep (fun p hp => (World.cell?_alloc_lt _ _ _ (by simp; omega)).trans (World.cell?_alloc_lt _ _ _ hp))).more (by simp; omega)))).mono ?_; rintro e w1 ⟨rfl, hb1⟩; have p3 := (hb1.cell (p := ⟨w.heap.size, 3, none⟩) (by simp; omega)).trans G.out.2.1; have p4 := (hb1.cell (p := ⟨w.heap.size, 4, none⟩) (by simp; omega)).trans G.out.2.2.1; have p5 := (hb1.cell (p := ⟨w.heap.size, 5, none⟩) (by simp; omega)).trans G.out.2.2.2; have t3 := (hb1.cell (p := ⟨w.heap.size + 1, 3, none⟩) (by simp)).trans G.out.1.1; have t4 := (hb1.cell (p := ⟨w.heap.size + 1, 4, none⟩) (by simp)).trans G.out.1.2.1; have t5 := (hb1.cell (p := ⟨w.heap.size + 1, 5, none⟩) (by simp)).trans G.out.1.2.2; have hz1 : w.heap.size + 1 < w1.heap.size := (by have := hb1.size; simp at this; omega); have hbw := (((Below.refl w.heap.size w).alloc (Nat.le_refl _) (.cells #[.int .i64 k, .string nm, .slice ra refs.length rc, .slice na nums.length nc, .int .i64 bY, .bool al] 38)).alloc (by simp) (.cells #[.int .i64 k, .string nm, .slice ra' refs'.length rc', .slice na' nums'.length nc', .int .i64 bY', .bool al'] 38)).trans (hb1.mono (by simp; omega)))
    go_ret
    exact ⟨ret_congr (by rw [HS.out]; rfl), hbw⟩
  rw [show decide (refs = refs') = true by simp [h3]] at HE1
  have HE1 := hide HE1
  by_cases h4 : nums = nums'
  rotate_left
  · have HS := hide (show sameD ⟨k, nm, refs, nums, bY, al⟩ ⟨k, nm, refs', nums', bY', al'⟩ = false by simp [sameD, h4])
    rw [show decide (nums = nums') = false by simp [h4]] at HE2
    have HE2 := hide HE2
    clear h4 h3
    go_enter Tryd.func31, Tryd.ntmps31
    go_wp2_with (first | (go_at_call 58; refine (HE1.out _ (((hr.keep (fun p hp => (World.cell?_alloc_lt _ _ _ (by simp; omega)).trans (World.cell?_alloc_lt _ _ _ hp))).more (by simp; omega))) (((hr'.keep (fun p hp => (World.cell?_alloc_lt _ _ _ (by simp; omega)).trans (World.cell?_alloc_lt _ _ _ hp))).more (by simp; omega)))).mono ?_; rintro e w1 ⟨rfl, hb1⟩; have p3 := (hb1.cell (p := ⟨w.heap.size, 3, none⟩) (by simp; omega)).trans G.out.2.1; have p4 := (hb1.cell (p := ⟨w.heap.size, 4, none⟩) (by simp; omega)).trans G.out.2.2.1; have p5 := (hb1.cell (p := ⟨w.heap.size, 5, none⟩) (by simp; omega)).trans G.out.2.2.2; have t3 := (hb1.cell (p := ⟨w.heap.size + 1, 3, none⟩) (by simp)).trans G.out.1.1; have t4 := (hb1.cell (p := ⟨w.heap.size + 1, 4, none⟩) (by simp)).trans G.out.1.2.1; have t5 := (hb1.cell (p := ⟨w.heap.size + 1, 5, none⟩) (by simp)).trans G.out.1.2.2; have hz1 : w.heap.size + 1 < w1.heap.size := (by have := hb1.size; simp at this; omega); have hbw := (((Below.refl w.heap.size w).alloc (Nat.le_refl _) (.cells #[.int .i64 k, .string nm, .slice ra refs.length rc, .slice na nums.length nc, .int .i64 bY, .bool al] 38)).alloc (by simp) (.cells #[.int .i64 k, .string nm, .slice ra' refs'.length rc', .slice na' nums'.length nc', .int .i64 bY', .bool al'] 38)).trans (hb1.mono (by simp; omega))) | (go_at_call 59; refine (HE2.out _ ((hn.below hbw).more hbw.size) ((hn'.below hbw).more hbw.size)).mono ?_; rintro e w2 ⟨rfl, hb2⟩; have p4' := (hb2.cell (p := ⟨w.heap.size, 4, none⟩) (by simp; omega)).trans p4; have p5' := (hb2.cell (p := ⟨w.heap.size, 5, none⟩) (by simp; omega)).trans p5; have t4' := (hb2.cell (p := ⟨w.heap.size + 1, 4, none⟩) hz1).trans t4; have t5' := (hb2.cell (p := ⟨w.heap.size + 1, 5, none⟩) hz1).trans t5; have hbw2 := hbw.trans (hb2.mono hbw.size)))
    go_ret
    exact ⟨ret_congr (by rw [HS.out]; rfl), hbw2⟩
  rw [show decide (nums = nums') = true by simp [h4]] at HE2
  have HE2 := hide HE2
  have HS := hide (show sameD ⟨k, nm, refs, nums, bY, al⟩ ⟨k, nm, refs', nums', bY', al'⟩ = (decide (bY = bY') && (al == al')) by simp [sameD, h3, h4])
  clear h3 h4
  by_cases h5 : bY = bY'
  rotate_left
  · go_enter Tryd.func31, Tryd.ntmps31
    go_wp2_with (first | (go_at_call 58; refine (HE1.out _ (((hr.keep (fun p hp => (World.cell?_alloc_lt _ _ _ (by simp; omega)).trans (World.cell?_alloc_lt _ _ _ hp))).more (by simp; omega))) (((hr'.keep (fun p hp => (World.cell?_alloc_lt _ _ _ (by simp; omega)).trans (World.cell?_alloc_lt _ _ _ hp))).more (by simp; omega)))).mono ?_; rintro e w1 ⟨rfl, hb1⟩; have p3 := (hb1.cell (p := ⟨w.heap.size, 3, none⟩) (by simp; omega)).trans G.out.2.1; have p4 := (hb1.cell (p := ⟨w.heap.size, 4, none⟩) (by simp; omega)).trans G.out.2.2.1; have p5 := (hb1.cell (p := ⟨w.heap.size, 5, none⟩) (by simp; omega)).trans G.out.2.2.2; have t3 := (hb1.cell (p := ⟨w.heap.size + 1, 3, none⟩) (by simp)).trans G.out.1.1; have t4 := (hb1.cell (p := ⟨w.heap.size + 1, 4, none⟩) (by simp)).trans G.out.1.2.1; have t5 := (hb1.cell (p := ⟨w.heap.size + 1, 5, none⟩) (by simp)).trans G.out.1.2.2; have hz1 : w.heap.size + 1 < w1.heap.size := (by have := hb1.size; simp at this; omega); have hbw := (((Below.refl w.heap.size w).alloc (Nat.le_refl _) (.cells #[.int .i64 k, .string nm, .slice ra refs.length rc, .slice na nums.length nc, .int .i64 bY, .bool al] 38)).alloc (by simp) (.cells #[.int .i64 k, .string nm, .slice ra' refs'.length rc', .slice na' nums'.length nc', .int .i64 bY', .bool al'] 38)).trans (hb1.mono (by simp; omega))) | (go_at_call 59; refine (HE2.out _ ((hn.below hbw).more hbw.size) ((hn'.below hbw).more hbw.size)).mono ?_; rintro e w2 ⟨rfl, hb2⟩; have p4' := (hb2.cell (p := ⟨w.heap.size, 4, none⟩) (by simp; omega)).trans p4; have p5' := (hb2.cell (p := ⟨w.heap.size, 5, none⟩) (by simp; omega)).trans p5; have t4' := (hb2.cell (p := ⟨w.heap.size + 1, 4, none⟩) hz1).trans t4; have t5' := (hb2.cell (p := ⟨w.heap.size + 1, 5, none⟩) hz1).trans t5; have hbw2 := hbw.trans (hb2.mono hbw.size)))
    go_ret
    exact ⟨ret_congr (by rw [HS.out]; simp [h5]), hbw2⟩
  · subst h5
    go_enter Tryd.func31, Tryd.ntmps31
    go_wp2_with (first | (go_at_call 58; refine (HE1.out _ (((hr.keep (fun p hp => (World.cell?_alloc_lt _ _ _ (by simp; omega)).trans (World.cell?_alloc_lt _ _ _ hp))).more (by simp; omega))) (((hr'.keep (fun p hp => (World.cell?_alloc_lt _ _ _ (by simp; omega)).trans (World.cell?_alloc_lt _ _ _ hp))).more (by simp; omega)))).mono ?_; rintro e w1 ⟨rfl, hb1⟩; have p3 := (hb1.cell (p := ⟨w.heap.size, 3, none⟩) (by simp; omega)).trans G.out.2.1; have p4 := (hb1.cell (p := ⟨w.heap.size, 4, none⟩) (by simp; omega)).trans G.out.2.2.1; have p5 := (hb1.cell (p := ⟨w.heap.size, 5, none⟩) (by simp; omega)).trans G.out.2.2.2; have t3 := (hb1.cell (p := ⟨w.heap.size + 1, 3, none⟩) (by simp)).trans G.out.1.1; have t4 := (hb1.cell (p := ⟨w.heap.size + 1, 4, none⟩) (by simp)).trans G.out.1.2.1; have t5 := (hb1.cell (p := ⟨w.heap.size + 1, 5, none⟩) (by simp)).trans G.out.1.2.2; have hz1 : w.heap.size + 1 < w1.heap.size := (by have := hb1.size; simp at this; omega); have hbw := (((Below.refl w.heap.size w).alloc (Nat.le_refl _) (.cells #[.int .i64 k, .string nm, .slice ra refs.length rc, .slice na nums.length nc, .int .i64 bY, .bool al] 38)).alloc (by simp) (.cells #[.int .i64 k, .string nm, .slice ra' refs'.length rc', .slice na' nums'.length nc', .int .i64 bY, .bool al'] 38)).trans (hb1.mono (by simp; omega))) | (go_at_call 59; refine (HE2.out _ ((hn.below hbw).more hbw.size) ((hn'.below hbw).more hbw.size)).mono ?_; rintro e w2 ⟨rfl, hb2⟩; have p4' := (hb2.cell (p := ⟨w.heap.size, 4, none⟩) (by simp; omega)).trans p4; have p5' := (hb2.cell (p := ⟨w.heap.size, 5, none⟩) (by simp; omega)).trans p5; have t4' := (hb2.cell (p := ⟨w.heap.size + 1, 4, none⟩) hz1).trans t4; have t5' := (hb2.cell (p := ⟨w.heap.size + 1, 5, none⟩) hz1).trans t5; have hbw2 := hbw.trans (hb2.mono hbw.size)))
    go_ret
    exact ⟨ret_congr (by rw [HS.out]; simp), hbw2⟩
end Go.Proofs.YtanhkeeifnimgaaDoor
