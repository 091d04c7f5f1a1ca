/- Slices of declarations; the walks of slices.Equal and of the closure of syntax.Same. Conditions: lengths that fit memory. The walks of slices.EqualFunc over declarations and of syntax.Same. Conditions: lengths that fit memory. -/
import Derived.Test.YtanhkeeifnimgaaDoorShelf
import Derived.Test.YtanhkeeifnimgaaDoorSpec17
import Derived.Test.YtanhkeeifnimgaaDoorOwn
import Derived.Deep.Draws
import Derived.Laws.EntriesVeiled

namespace Go.Proofs.YtanhkeeifnimgaaDoor
open Go Go.RowKit Go.Proofs

theorem below_drewN (w : World) (n : Nat) : Below w.heap.size w (w.drewN n) := by
  induction n with
  | zero => exact Below.refl _ _
  | succ n ih => exact ih.drew

theorem equal_strs (A1 A2 : Option Addr) (c1 c2 : Nat) (l m : List ByteArray) (w : World) (h1 : Strs w w.heap.size A1 l) (h2 : Strs w w.heap.size A2 m) (hl : l.length ≤ 9223372036854775807) (hm : m.length ≤ 9223372036854775807) :
    Calls Tryd.prog 48 #[.slice A1 l.length c1, .slice A2 m.length c2] w fun e w' => e = .returned (.bool (decide (l = m))) ∧ Below w.heap.size w w' := by
  by_cases hlen : l.length = m.length
  · by_cases hn : l = []
    · subst hn
      have hm0 : m = [] := List.eq_nil_of_length_eq_zero hlen.symm
      subst hm0
      exact (Tryd.slices_Equal_string_empty A1 A2 c1 0 c2 w (by simp)).mono fun e w' ⟨he, hw⟩ => ⟨by rw [he]; rfl, hw ▸ Below.refl _ _⟩
    · have hn2 : m ≠ [] := by intro h; subst h; exact hn (List.eq_nil_of_length_eq_zero hlen)
      obtain ⟨b1, o1, rfl, hb1, hc1⟩ := h1.form hn
      obtain ⟨b2, o2, rfl, hb2, hc2⟩ := h2.form hn2
      refine (Tryd.slices_Equal_string b1 o1 l.length c1 b2 o2 m.length c2 l m w (Nat.le_refl _) (Nat.le_refl _) hl hm hc1 hc2).mono fun e w' ⟨he, q, hw⟩ => ⟨?_, hw ▸ below_drewN w q⟩
      rw [he, List.take_length, List.take_length]
  · refine (Tryd.slices_Equal_string_lens A1 A2 l.length c1 m.length c2 w hlen).mono fun e w' ⟨he, hw⟩ => ⟨?_, hw ▸ Below.refl _ _⟩
    have : ¬ l = m := fun h => hlen (by rw [h])
    rw [he]; simp [this]
theorem equal_ints (A1 A2 : Option Addr) (c1 c2 : Nat) (l m : List Int) (w : World) (h1 : Ints w w.heap.size A1 l) (h2 : Ints w w.heap.size A2 m) (hl : l.length ≤ 9223372036854775807) (hm : m.length ≤ 9223372036854775807) :
    Calls Tryd.prog 49 #[.slice A1 l.length c1, .slice A2 m.length c2] w fun e w' => e = .returned (.bool (decide (l = m))) ∧ Below w.heap.size w w' := by
  by_cases hlen : l.length = m.length
  · by_cases hn : l = []
    · subst hn
      have hm0 : m = [] := List.eq_nil_of_length_eq_zero hlen.symm
      subst hm0
      exact (Tryd.slices_Equal_int_empty A1 A2 c1 0 c2 w (by simp)).mono fun e w' ⟨he, hw⟩ => ⟨by rw [he]; rfl, hw ▸ Below.refl _ _⟩
    · have hn2 : m ≠ [] := by intro h; subst h; exact hn (List.eq_nil_of_length_eq_zero hlen)
      obtain ⟨b1, o1, rfl, hb1, hc1⟩ := h1.form hn
      obtain ⟨b2, o2, rfl, hb2, hc2⟩ := h2.form hn2
      refine (Tryd.slices_Equal_int b1 o1 l.length c1 b2 o2 m.length c2 l m w (Nat.le_refl _) (Nat.le_refl _) hl hm hc1 hc2).mono fun e w' ⟨he, q, hw⟩ => ⟨?_, hw ▸ below_drewN w q⟩
      rw [he, List.take_length, List.take_length]
      congr 2
      rw [Bool.eq_iff_iff]; simp
  · refine (Tryd.slices_Equal_int_lens A1 A2 l.length c1 m.length c2 w hlen).mono fun e w' ⟨he, hw⟩ => ⟨?_, hw ▸ Below.refl _ _⟩
    have : ¬ l = m := fun h => hlen (by rw [h])
    rw [he]; simp [this]

/-- a declaration's cells -/
def declCells (d : Decl) (ra : Option Addr) (rc : Nat) (na : Option Addr) (nc : Nat) : List Value :=
  [.int .i64 d.kind, .string d.name, .slice ra d.refs.length rc, .slice na d.nums.length nc, .int .i64 d.by_, .bool d.always]
/-- what a declaration that came in fulfils: its lengths fit memory -/
def Fine (d : Decl) : Prop := d.name.size ≤ 9223372036854775807 ∧ (∀ s ∈ d.refs, s.size ≤ 9223372036854775807) ∧ d.refs.length ≤ 9223372036854775807 ∧ d.nums.length ≤ 9223372036854775807
def DeclAt (w : World) (B : Nat) (a : Addr) (d : Decl) : Prop :=
  ∃ ra rc na nc, (∀ (j : Nat) u, (declCells d ra rc na nc)[j]? = some u → w.cell? (a.add j) = some u) ∧ (d.refs.length ≤ rc ∧ d.nums.length ≤ nc) ∧ Strs w B ra d.refs ∧ Ints w B na d.nums ∧ Fine d
def Decls (w : World) (B : Nat) (A : Option Addr) (l : List Decl) : Prop :=
  ∀ (i : Nat) (hi : i < l.length), ∃ ad, A = some ad ∧ ad.block < B ∧ DeclAt w B (ad.add (i * 6)) l[i]
theorem DeclAt.keep {w w' : World} {B : Nat} {a : Addr} {d : Decl} (h : DeclAt w B a d) (ha : a.block < B) (hk : ∀ p : Addr, p.block < B → w'.cell? p = w.cell? p) : DeclAt w' B a d := by
  obtain ⟨ra, rc, na, nc, hc, h1, h2, h3, h4⟩ := h
  exact ⟨ra, rc, na, nc, fun j u hu => (hk _ (by rw [block_of_add]; exact ha)).trans (hc j u hu), h1, h2.keep hk, h3.keep hk, h4⟩
theorem DeclAt.more {w : World} {B B' : Nat} {a : Addr} {d : Decl} (h : DeclAt w B a d) (hB : B ≤ B') : DeclAt w B' a d := by
  obtain ⟨ra, rc, na, nc, hc, h1, h2, h3, h4⟩ := h
  exact ⟨ra, rc, na, nc, hc, h1, h2.more hB, h3.more hB, h4⟩
theorem Decls.keep {w w' : World} {B : Nat} {A : Option Addr} {l : List Decl} (h : Decls w B A l) (hk : ∀ p : Addr, p.block < B → w'.cell? p = w.cell? p) : Decls w' B A l :=
  fun i hi => by
    obtain ⟨ad, rfl, hb, hd⟩ := h i hi
    exact ⟨ad, rfl, hb, hd.keep (by rw [block_of_add]; exact hb) hk⟩
theorem Decls.below {w w' : World} {B : Nat} {A : Option Addr} {l : List Decl} (h : Decls w B A l) (hb : Below B w w') : Decls w' B A l := h.keep fun _ hp => hb.cell hp
theorem Decls.more {w : World} {B B' : Nat} {A : Option Addr} {l : List Decl} (h : Decls w B A l) (hB : B ≤ B') : Decls w B' A l :=
  fun i hi => by
    obtain ⟨ad, rfl, hb, hd⟩ := h i hi
    exact ⟨ad, rfl, Nat.lt_of_lt_of_le hb hB, hd.more hB⟩

/-- two declarations are equal -/
def sameD (a b : Decl) : Bool :=
  decide (a.kind = b.kind) && decide (a.name = b.name) && decide (a.by_ = b.by_) && (a.always == b.always) && decide (a.refs = b.refs) && decide (a.nums = b.nums)

set_option maxRecDepth 100000 in
set_option maxHeartbeats 4000000 in
theorem same_closure (a b : Decl) (ra : Option Addr) (rc : Nat) (na : Option Addr) (nc : Nat) (ra' : Option Addr) (rc' : Nat) (na' : Option Addr) (nc' : Nat) (w : World)
    (hr : Strs w w.heap.size ra a.refs) (hn : Ints w w.heap.size na a.nums) (hr' : Strs w w.heap.size ra' b.refs) (hn' : Ints w w.heap.size na' b.nums) (ha : Fine a) (hb : Fine b) :
    Calls Tryd.prog 47 #[.agg #[.int .i64 a.kind, .string a.name, .slice ra a.refs.length rc, .slice na a.nums.length nc, .int .i64 a.by_, .bool a.always], .agg #[.int .i64 b.kind, .string b.name, .slice ra' b.refs.length rc', .slice na' b.nums.length nc', .int .i64 b.by_, .bool b.always]] w
      fun e w' => e = .returned (.bool (sameD a b)) ∧ Below w.heap.size w w' := by
  obtain ⟨k, nm, refs, nums, bY, al⟩ := a
  obtain ⟨k', nm', refs', nums', bY', al'⟩ := b
  have HA := hide ha
  have HB := hide hb
  clear ha hb
  have hsd := fun (x : Bool) (h : x = (decide (k = k') && decide (nm = nm') && decide (bY = bY') && (al == al') && decide (refs = refs') && decide (nums = nums'))) => h
  simp only []
  by_cases h1 : k = k'
  rotate_left
  · have HS := hide (show sameD ⟨k, nm, refs, nums, bY, al⟩ ⟨k', nm', refs', nums', bY', al'⟩ = false by simp [sameD, h1])
    clear hsd
    go_enter Tryd.func47, Tryd.ntmps47
    go_wp2
    go_ret
    exact ⟨ret_congr (by rw [HS.out]; rfl), ((Below.refl _ _).alloc (Nat.le_refl _) _).alloc (by simp) _⟩
  by_cases h2 : nm = nm'
  rotate_left
  · have HS := hide (show sameD ⟨k, nm, refs, nums, bY, al⟩ ⟨k', nm', refs', nums', bY', al'⟩ = false by simp [sameD, h2])
    clear hsd
    have h2' := toList_beq_false h2
    clear h2
    subst h1
    go_enter Tryd.func47, Tryd.ntmps47
    go_wp2
    go_ret
    exact ⟨ret_congr (by rw [HS.out]; rfl), ((Below.refl _ _).alloc (Nat.le_refl _) _).alloc (by simp) _⟩
  subst h1
  subst h2
  by_cases h3 : bY = bY'
  rotate_left
  · have HS := hide (show sameD ⟨k, nm, refs, nums, bY, al⟩ ⟨k, nm, refs', nums', bY', al'⟩ = false by simp [sameD, h3])
    clear hsd
    go_enter Tryd.func47, Tryd.ntmps47
    go_wp2
    go_ret
    exact ⟨ret_congr (by rw [HS.out]; rfl), ((Below.refl _ _).alloc (Nat.le_refl _) _).alloc (by simp) _⟩
  subst h3
  by_cases h4 : al = al'
  rotate_left
  · have HS := hide (show sameD ⟨k, nm, refs, nums, bY, al⟩ ⟨k, nm, refs', nums', bY, al'⟩ = false by simp [sameD, h4])
    clear hsd
    have h4' : (al == al') = false := by simpa using h4
    go_enter Tryd.func47, Tryd.ntmps47
    go_wp2
    go_ret
    exact ⟨ret_congr (by rw [HS.out]; rfl), ((Below.refl _ _).alloc (Nat.le_refl _) _).alloc (by simp) _⟩
  subst h4
  have HS := hide (show sameD ⟨k, nm, refs, nums, bY, al⟩ ⟨k, nm, refs', nums', bY, al⟩ = (decide (refs = refs') && decide (nums = nums')) by simp [sameD])
  clear hsd
  have hg2 : ((w.alloc (.cells #[.int .i64 k, .string nm, .slice ra refs.length rc, .slice na nums.length nc, .int .i64 bY, .bool al] 38)).alloc (.cells #[.int .i64 k, .string nm, .slice ra' refs'.length rc', .slice na' nums'.length nc', .int .i64 bY, .bool al] 38)).cell? ⟨w.heap.size + 1, 3, none⟩ = some (.slice na' nums'.length nc') := by
    have := cell?_new (w.alloc (.cells #[.int .i64 k, .string nm, .slice ra refs.length rc, .slice na nums.length nc, .int .i64 bY, .bool al] 38)) #[.int .i64 k, .string nm, .slice ra' refs'.length rc', .slice na' nums'.length nc', .int .i64 bY, .bool al] 38 3
    simp at this ⊢
  have G2 := hide hg2
  clear hg2
  go_enter Tryd.func47, Tryd.ntmps47
  go_wp2_with (first
    | (go_at_call 48; refine (equal_strs ra ra' rc rc' refs refs' _ (((hr.keep (fun p hp => (World.cell?_alloc_lt _ _ _ (by simp; omega)).trans (World.cell?_alloc_lt _ _ _ hp))).more (by simp; omega))) (((hr'.keep (fun p hp => (World.cell?_alloc_lt _ _ _ (by simp; omega)).trans (World.cell?_alloc_lt _ _ _ hp))).more (by simp; omega))) HA.out.2.2.1 HB.out.2.2.1).mono ?_; rintro e w1 ⟨rfl, hb1⟩; have g1 := (hb1.cell (p := ⟨w.heap.size, 3, none⟩) (by simp; omega)).trans ((World.cell?_alloc_lt _ _ _ (by simp)).trans (cell?_new w #[.int .i64 k, .string nm, .slice ra refs.length rc, .slice na nums.length nc, .int .i64 bY, .bool al] 38 3)); have g2 := (hb1.cell (p := ⟨w.heap.size + 1, 3, none⟩) (by simp)).trans G2.out; simp at g1; have hbw := (((Below.refl w.heap.size w).alloc (Nat.le_refl _) (.cells #[.int .i64 k, .string nm, .slice ra refs.length rc, .slice na nums.length nc, .int .i64 bY, .bool al] 38)).alloc (by simp) (.cells #[.int .i64 k, .string nm, .slice ra' refs'.length rc', .slice na' nums'.length nc', .int .i64 bY, .bool al] 38)).trans (hb1.mono (by simp; omega)))
    | (go_at_call 49; refine (equal_ints na na' nc nc' nums nums' _ ((hn.below hbw).more hbw.size) ((hn'.below hbw).more hbw.size) HA.out.2.2.2 HB.out.2.2.2).mono ?_; rintro e w2 ⟨rfl, hb2⟩; have hbw2 := hbw.trans (hb2.mono hbw.size)))
  all_goals
    go_ret
    refine ⟨ret_congr (congrArg Value.bool ?_), by first | exact hbw2 | exact hbw⟩
    have hS := HS.out
    rw [hS]
    simp [*]
end Go.Proofs.YtanhkeeifnimgaaDoor

namespace Go.Proofs.YtanhkeeifnimgaaDoor
open Go Go.RowKit Go.Proofs

def sameL : List Decl → List Decl → Bool
  | [], [] => true
  | a :: l, b :: m => sameD a b && sameL l m
  | _, _ => false
theorem sameL_len : ∀ (l m : List Decl), l.length ≠ m.length → sameL l m = false
  | [], [], h => absurd rfl h
  | [], _ :: _, _ => rfl
  | _ :: _, [], _ => rfl
  | a :: l, b :: m, h => by simp only [sameL]; rw [sameL_len l m (by simpa using h)]; simp
theorem sameL_true : ∀ (l m : List Decl), l.length = m.length → (∀ i (h1 : i < l.length) (h2 : i < m.length), sameD l[i] m[i] = true) → sameL l m = true
  | [], [], _, _ => rfl
  | [], _ :: _, h, _ => by simp at h
  | _ :: _, [], h, _ => by simp at h
  | a :: l, b :: m, h, hs => by
    simp only [sameL]
    rw [sameL_true l m (by simpa using h) fun i h1 h2 => by
      have := hs (i + 1) (by simpa using h1) (by simpa using h2)
      simpa using this]
    have := hs 0 (by simp) (by simp)
    simpa using this
theorem sameL_false : ∀ (l m : List Decl) (i : Nat) (h1 : i < l.length) (h2 : i < m.length), sameD l[i] m[i] = false → sameL l m = false
  | [], _, _, h, _, _ => absurd h (by simp)
  | _ :: _, [], _, _, h, _ => absurd h (by simp)
  | a :: l, b :: m, 0, _, _, h => by simp at h; simp [sameL, h]
  | a :: l, b :: m, i + 1, h1, h2, h => by
    simp only [sameL]
    rw [sameL_false l m i (by simpa using h1) (by simpa using h2) (by simpa using h)]; simp

theorem Decls.at_ {w : World} {B : Nat} {A : Option Addr} {l : List Decl} (h : Decls w B A l) {i : Nat} (hi : i < l.length) :
    ∃ b off ra rc na nc, A = some ⟨b, off, none⟩ ∧ b < B ∧ w.cell? ⟨b, off + i * 6, none⟩ = some (.int .i64 l[i].kind) ∧ w.cell? ⟨b, off + i * 6 + 1, none⟩ = some (.string l[i].name) ∧ w.cell? ⟨b, off + i * 6 + 2, none⟩ = some (.slice ra l[i].refs.length rc) ∧
      w.cell? ⟨b, off + i * 6 + 3, none⟩ = some (.slice na l[i].nums.length nc) ∧ w.cell? ⟨b, off + i * 6 + 4, none⟩ = some (.int .i64 l[i].by_) ∧ w.cell? ⟨b, off + i * 6 + 5, none⟩ = some (.bool l[i].always) ∧
      l[i].refs.length ≤ rc ∧ Strs w B ra l[i].refs ∧ Ints w B na l[i].nums ∧ Fine l[i] := by
  obtain ⟨ad, rfl, hb, hd⟩ := h 0 (by omega)
  obtain ⟨b, off, spot⟩ := ad
  obtain ⟨_, _, _, _, hc, _⟩ := hd
  have hs : spot = none := by simpa [Addr.add] using World.cell?_spot (hc 0 _ rfl)
  subst hs
  obtain ⟨ad, e, hb2, ra, rc, na, nc, hc2, h1, h2, h3, h4⟩ := h i hi
  obtain rfl : (⟨b, off, none⟩ : Addr) = ad := Option.some.inj e
  have key : ∀ j u, (declCells l[i] ra rc na nc)[j]? = some u → w.cell? ⟨b, off + i * 6 + j, none⟩ = some u := fun j u hu => by
    rw [← add_none, ← add_none]; exact hc2 j u hu
  exact ⟨b, off, ra, rc, na, nc, rfl, hb2, key 0 _ rfl, key 1 _ rfl, key 2 _ rfl, key 3 _ rfl, key 4 _ rfl, key 5 _ rfl, h1.1, h2, h3, h4⟩

theorem Decls.at2_ {w : World} {B : Nat} {A : Option Addr} {l : List Decl} (h : Decls w B A l) {i : Nat} (hi : i < l.length) :
    ∃ b off ra rc na nc, A = some ⟨b, off, none⟩ ∧ b < B ∧ w.cell? ⟨b, off + i * 6, none⟩ = some (.int .i64 l[i].kind) ∧ w.cell? ⟨b, off + i * 6 + 1, none⟩ = some (.string l[i].name) ∧ w.cell? ⟨b, off + i * 6 + 2, none⟩ = some (.slice ra l[i].refs.length rc) ∧
      w.cell? ⟨b, off + i * 6 + 3, none⟩ = some (.slice na l[i].nums.length nc) ∧ w.cell? ⟨b, off + i * 6 + 4, none⟩ = some (.int .i64 l[i].by_) ∧ w.cell? ⟨b, off + i * 6 + 5, none⟩ = some (.bool l[i].always) ∧
      (l[i].refs.length ≤ rc ∧ l[i].nums.length ≤ nc) ∧ Strs w B ra l[i].refs ∧ Ints w B na l[i].nums ∧ Fine l[i] := by
  obtain ⟨ad, rfl, hb, hd⟩ := h 0 (by omega)
  obtain ⟨b, off, spot⟩ := ad
  obtain ⟨_, _, _, _, hc, _⟩ := hd
  have hs : spot = none := by simpa [Addr.add] using World.cell?_spot (hc 0 _ rfl)
  subst hs
  obtain ⟨ad, e, hb2, ra, rc, na, nc, hc2, h1, h2, h3, h4⟩ := h i hi
  obtain rfl : (⟨b, off, none⟩ : Addr) = ad := Option.some.inj e
  have key : ∀ j u, (declCells l[i] ra rc na nc)[j]? = some u → w.cell? ⟨b, off + i * 6 + j, none⟩ = some u := fun j u hu => by
    rw [← add_none, ← add_none]; exact hc2 j u hu
  exact ⟨b, off, ra, rc, na, nc, rfl, hb2, key 0 _ rfl, key 1 _ rfl, key 2 _ rfl, key 3 _ rfl, key 4 _ rfl, key 5 _ rfl, h1, h2, h3, h4⟩

set_option maxRecDepth 100000 in
set_option maxHeartbeats 4000000 in
theorem equalFunc_same (A1 A2 : Option Addr) (c1 c2 : Nat) (l m : List Decl) (w : World) (h1 : Decls w w.heap.size A1 l) (h2 : Decls w w.heap.size A2 m) (hl : l.length ≤ 9223372036854775807) (_hm : m.length ≤ 9223372036854775807) :
    Calls Tryd.prog 46 #[.slice A1 l.length c1, .slice A2 m.length c2, .func (.func 47) #[] #[]] w fun e w' => e = .returned (.bool (sameL l m)) ∧ Below w.heap.size w w' := by
  by_cases hlen : l.length = m.length
  rotate_left
  · have HS := hide (sameL_len l m hlen)
    have hne : ((l.length : Int) == (m.length : Int)) = false := by simp; omega
    have hne2 : ((l.length : Int) != (m.length : Int)) = true := by simp [bne, hne]
    go_enter Tryd.func46, Tryd.ntmps46
    go_wp2
    go_ret
    exact ⟨ret_congr (by rw [HS.out]; rfl), Below.refl _ _⟩
  · have HL := hide hlen
    have hne2 : ((l.length : Int) != (m.length : Int)) = false := by simp [bne, hlen]
    clear hlen
    go_enter Tryd.func46, Tryd.ntmps46
    go_wp2_with fail
    go_loopw [17] (fun i wr => ∃ k : Nat, k ≤ l.length ∧ i = .int .i64 k ∧ Below w.heap.size w wr ∧ Hid (∀ j (q1 : j < l.length) (q2 : j < m.length), j < k → sameD l[j] m[j] = true)) (fun i _ => l.length - (intOf i).toNat)
    case atStart => exact ⟨0, Nat.zero_le _, rfl, Below.refl _ _, fun j _ _ h0 => absurd h0 (by omega)⟩
    case round =>
      obtain ⟨k, hk, rfl, hbr, hs⟩ := hrel
      by_cases hlt : k < l.length
      · have hlt2 : k < m.length := by rw [← HL.out]; exact hlt
        obtain ⟨b1, o1, ra, rc, na, nc, rfl, hb1, x0, x1, x2, x3, x4, x5, _, hr, hn, hf⟩ := (h1.below hbr).at_ hlt
        obtain ⟨b2, o2, ra', rc', na', nc', rfl, hb2, y0, y1, y2, y3, y4, y5, _, hr', hn', hf'⟩ := (h2.below hbr).at_ hlt2
        have hb1' : b1 < wr.heap.size := Nat.lt_of_lt_of_le hb1 hbr.size
        have hb2' : b2 < wr.heap.size := Nat.lt_of_lt_of_le hb2 hbr.size
        cases hsm : sameD l[k] m[k]
        · have HS := hide (sameL_false l m k hlt hlt2 hsm)
          have HSM := hide hsm
          go_wp2_with (go_at_call 47; refine (same_closure l[k] m[k] ra rc na nc ra' rc' na' nc' _ ((hr.keep fun p hp => (World.cell?_alloc_lt _ _ _ (by have := hbr.size; simp; omega)).trans (World.cell?_alloc_lt _ _ _ (Nat.lt_of_lt_of_le hp hbr.size))).more (by have := hbr.size; simp; omega)) ((hn.keep fun p hp => (World.cell?_alloc_lt _ _ _ (by have := hbr.size; simp; omega)).trans (World.cell?_alloc_lt _ _ _ (Nat.lt_of_lt_of_le hp hbr.size))).more (by have := hbr.size; simp; omega)) ((hr'.keep fun p hp => (World.cell?_alloc_lt _ _ _ (by have := hbr.size; simp; omega)).trans (World.cell?_alloc_lt _ _ _ (Nat.lt_of_lt_of_le hp hbr.size))).more (by have := hbr.size; simp; omega)) ((hn'.keep fun p hp => (World.cell?_alloc_lt _ _ _ (by have := hbr.size; simp; omega)).trans (World.cell?_alloc_lt _ _ _ (Nat.lt_of_lt_of_le hp hbr.size))).more (by have := hbr.size; simp; omega)) hf hf').mono ?_; rintro e w3 ⟨rfl, hb3⟩)
          go_ret
          exact ⟨ret_congr (by rw [HS.out]; rfl), ((hbr.alloc hbr.size _).alloc (by have := hbr.size; simp; omega) _).trans (hb3.mono (by have := hbr.size; simp; omega))⟩
        · have HSM := hide hsm
          go_wp2_with (go_at_call 47; refine (same_closure l[k] m[k] ra rc na nc ra' rc' na' nc' _ ((hr.keep fun p hp => (World.cell?_alloc_lt _ _ _ (by have := hbr.size; simp; omega)).trans (World.cell?_alloc_lt _ _ _ (Nat.lt_of_lt_of_le hp hbr.size))).more (by have := hbr.size; simp; omega)) ((hn.keep fun p hp => (World.cell?_alloc_lt _ _ _ (by have := hbr.size; simp; omega)).trans (World.cell?_alloc_lt _ _ _ (Nat.lt_of_lt_of_le hp hbr.size))).more (by have := hbr.size; simp; omega)) ((hr'.keep fun p hp => (World.cell?_alloc_lt _ _ _ (by have := hbr.size; simp; omega)).trans (World.cell?_alloc_lt _ _ _ (Nat.lt_of_lt_of_le hp hbr.size))).more (by have := hbr.size; simp; omega)) ((hn'.keep fun p hp => (World.cell?_alloc_lt _ _ _ (by have := hbr.size; simp; omega)).trans (World.cell?_alloc_lt _ _ _ (Nat.lt_of_lt_of_le hp hbr.size))).more (by have := hbr.size; simp; omega)) hf hf').mono ?_; rintro e w3 ⟨rfl, hb3⟩)
          go_roundw
          case rel => exact ⟨k + 1, by omega, by go_num, ((hbr.alloc hbr.size _).alloc (by have := hbr.size; simp; omega) _).trans (hb3.mono (by have := hbr.size; simp; omega)), fun j q1 q2 h1 => by
            rcases Nat.lt_or_ge j k with h2 | h2
            · exact hs j q1 q2 h2
            · obtain rfl : j = k := by omega
              exact HSM⟩
          case measure => simp [intOf]; omega
      · have HS := hide (sameL_true l m HL.out fun j q1 q2 => hs j q1 q2 (by omega))
        go_wp2_with fail
        go_ret
        exact ⟨ret_congr (by rw [HS.out]; rfl), hbr⟩
set_option maxHeartbeats 400000 in
theorem same_prog (A1 A2 : Option Addr) (c1 c2 : Nat) (l m : List Decl) (w : World) (h1 : Decls w w.heap.size A1 l) (h2 : Decls w w.heap.size A2 m) (hl : l.length ≤ 9223372036854775807) (hm : m.length ≤ 9223372036854775807) :
    Calls Tryd.prog 24 #[.slice A1 l.length c1, .slice A2 m.length c2] w fun e w' => e = .returned (.bool (sameL l m)) ∧ Below w.heap.size w w' := by
  go_enter Tryd.func24, Tryd.ntmps24
  go_wp2_with (go_at_call 46; refine (equalFunc_same A1 A2 c1 c2 l m w h1 h2 hl hm).mono ?_; rintro e w1 ⟨rfl, hb⟩)
  go_ret
  exact ⟨rfl, hb⟩
end Go.Proofs.YtanhkeeifnimgaaDoor
