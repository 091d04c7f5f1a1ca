/- The walks of slices.EqualFunc over declarations and of syntax.Same. Conditions: lengths that fit memory. -/
import Derived.Test.YtanhkeeifnimgaaGreatDoorSyn17s
import Derived.Laws.EntriesVeiled
namespace Go.Proofs.YtanhkeeifnimgaaGreatDoor
open Go Go.RowKit Go.Proofs

def sameL : List Decl → List Decl → Bool
  | [], [] => true
  | a :: l, b :: m => sameD a b && sameL l m
  | _, _ => false
theorem sameL_len : ∀ (l m : List Decl), l.length ≠ m.length → sameL l m = false
  | [], [], h => absurd rfl h
  | [], _ :: _, _ => rfl
  | _ :: _, [], _ => rfl
  | a :: l, b :: m, h => by simp only [sameL]; rw [sameL_len l m (by simpa using h)]; simp
theorem sameL_true : ∀ (l m : List Decl), l.length = m.length → (∀ i (h1 : i < l.length) (h2 : i < m.length), sameD l[i] m[i] = true) → sameL l m = true
  | [], [], _, _ => rfl
  | [], _ :: _, h, _ => by simp at h
  | _ :: _, [], h, _ => by simp at h
  | a :: l, b :: m, h, hs => by
    simp only [sameL]
    rw [sameL_true l m (by simpa using h) fun i h1 h2 => by
      have := hs (i + 1) (by simpa using h1) (by simpa using h2)
      simpa using this]
    have := hs 0 (by simp) (by simp)
    simpa using this
theorem sameL_false : ∀ (l m : List Decl) (i : Nat) (h1 : i < l.length) (h2 : i < m.length), sameD l[i] m[i] = false → sameL l m = false
  | [], _, _, h, _, _ => absurd h (by simp)
  | _ :: _, [], _, _, h, _ => absurd h (by simp)
  | a :: l, b :: m, 0, _, _, h => by simp at h; simp [sameL, h]
  | a :: l, b :: m, i + 1, h1, h2, h => by
    simp only [sameL]
    rw [sameL_false l m i (by simpa using h1) (by simpa using h2) (by simpa using h)]; simp

theorem Decls.at_ {w : World} {B : Nat} {A : Option Addr} {l : List Decl} (h : Decls w B A l) {i : Nat} (hi : i < l.length) :
    ∃ b off ra rc na nc, A = some ⟨b, off, none⟩ ∧ b < B ∧ w.cell? ⟨b, off + i * 6, none⟩ = some (.int .i64 l[i].kind) ∧ w.cell? ⟨b, off + i * 6 + 1, none⟩ = some (.string l[i].name) ∧ w.cell? ⟨b, off + i * 6 + 2, none⟩ = some (.slice ra l[i].refs.length rc) ∧
      w.cell? ⟨b, off + i * 6 + 3, none⟩ = some (.slice na l[i].nums.length nc) ∧ w.cell? ⟨b, off + i * 6 + 4, none⟩ = some (.int .i64 l[i].by_) ∧ w.cell? ⟨b, off + i * 6 + 5, none⟩ = some (.bool l[i].always) ∧
      l[i].refs.length ≤ rc ∧ Strs w B ra l[i].refs ∧ Ints w B na l[i].nums ∧ Fine l[i] := by
  obtain ⟨ad, rfl, hb, hd⟩ := h 0 (by omega)
  obtain ⟨b, off, spot⟩ := ad
  obtain ⟨_, _, _, _, hc, _⟩ := hd
  have hs : spot = none := by simpa [Addr.add] using World.cell?_spot (hc 0 _ rfl)
  subst hs
  obtain ⟨ad, e, hb2, ra, rc, na, nc, hc2, h1, h2, h3, h4⟩ := h i hi
  obtain rfl : (⟨b, off, none⟩ : Addr) = ad := Option.some.inj e
  have key : ∀ j u, (declCells l[i] ra rc na nc)[j]? = some u → w.cell? ⟨b, off + i * 6 + j, none⟩ = some u := fun j u hu => by
    rw [← add_none, ← add_none]; exact hc2 j u hu
  exact ⟨b, off, ra, rc, na, nc, rfl, hb2, key 0 _ rfl, key 1 _ rfl, key 2 _ rfl, key 3 _ rfl, key 4 _ rfl, key 5 _ rfl, h1.1, h2, h3, h4⟩

theorem Decls.at2_ {w : World} {B : Nat} {A : Option Addr} {l : List Decl} (h : Decls w B A l) {i : Nat} (hi : i < l.length) :
    ∃ b off ra rc na nc, A = some ⟨b, off, none⟩ ∧ b < B ∧ w.cell? ⟨b, off + i * 6, none⟩ = some (.int .i64 l[i].kind) ∧ w.cell? ⟨b, off + i * 6 + 1, none⟩ = some (.string l[i].name) ∧ w.cell? ⟨b, off + i * 6 + 2, none⟩ = some (.slice ra l[i].refs.length rc) ∧
      w.cell? ⟨b, off + i * 6 + 3, none⟩ = some (.slice na l[i].nums.length nc) ∧ w.cell? ⟨b, off + i * 6 + 4, none⟩ = some (.int .i64 l[i].by_) ∧ w.cell? ⟨b, off + i * 6 + 5, none⟩ = some (.bool l[i].always) ∧
      (l[i].refs.length ≤ rc ∧ l[i].nums.length ≤ nc) ∧ Strs w B ra l[i].refs ∧ Ints w B na l[i].nums ∧ Fine l[i] := by
  obtain ⟨ad, rfl, hb, hd⟩ := h 0 (by omega)
  obtain ⟨b, off, spot⟩ := ad
  obtain ⟨_, _, _, _, hc, _⟩ := hd
  have hs : spot = none := by simpa [Addr.add] using World.cell?_spot (hc 0 _ rfl)
  subst hs
  obtain ⟨ad, e, hb2, ra, rc, na, nc, hc2, h1, h2, h3, h4⟩ := h i hi
  obtain rfl : (⟨b, off, none⟩ : Addr) = ad := Option.some.inj e
  have key : ∀ j u, (declCells l[i] ra rc na nc)[j]? = some u → w.cell? ⟨b, off + i * 6 + j, none⟩ = some u := fun j u hu => by
    rw [← add_none, ← add_none]; exact hc2 j u hu
  exact ⟨b, off, ra, rc, na, nc, rfl, hb2, key 0 _ rfl, key 1 _ rfl, key 2 _ rfl, key 3 _ rfl, key 4 _ rfl, key 5 _ rfl, h1, h2, h3, h4⟩

set_option maxRecDepth 100000 in
set_option maxHeartbeats 4000000 in
theorem equalFunc_same (A1 A2 : Option Addr) (c1 c2 : Nat) (l m : List Decl) (w : World) (h1 : Decls w w.heap.size A1 l) (h2 : Decls w w.heap.size A2 m) (hl : l.length ≤ 9223372036854775807) (_hm : m.length ≤ 9223372036854775807) :
    Calls Tryz.prog 43 #[.slice A1 l.length c1, .slice A2 m.length c2, .func (.func 44) #[] #[]] w fun e w' => e = .returned (.bool (sameL l m)) ∧ Below w.heap.size w w' := by
  by_cases hlen : l.length = m.length
  rotate_left
  · have HS := hide (sameL_len l m hlen)
    have hne : ((l.length : Int) == (m.length : Int)) = false := by simp; omega
    have hne2 : ((l.length : Int) != (m.length : Int)) = true := by simp [bne, hne]
    go_enter Tryz.func43, Tryz.ntmps43
    go_wp2
    go_ret
    exact ⟨ret_congr (by rw [HS.out]; rfl), Below.refl _ _⟩
  · have HL := hide hlen
    have hne2 : ((l.length : Int) != (m.length : Int)) = false := by simp [bne, hlen]
    clear hlen
    go_enter Tryz.func43, Tryz.ntmps43
    go_wp2_with fail
    go_loopw [17] (fun i wr => ∃ k : Nat, k ≤ l.length ∧ i = .int .i64 k ∧ Below w.heap.size w wr ∧ Hid (∀ j (q1 : j < l.length) (q2 : j < m.length), j < k → sameD l[j] m[j] = true)) (fun i _ => l.length - (intOf i).toNat)
    case atStart => exact ⟨0, Nat.zero_le _, rfl, Below.refl _ _, fun j _ _ h0 => absurd h0 (by omega)⟩
    case round =>
      obtain ⟨k, hk, rfl, hbr, hs⟩ := hrel
      by_cases hlt : k < l.length
      · have hlt2 : k < m.length := by rw [← HL.out]; exact hlt
        obtain ⟨b1, o1, ra, rc, na, nc, rfl, hb1, x0, x1, x2, x3, x4, x5, _, hr, hn, hf⟩ := (h1.below hbr).at_ hlt
        obtain ⟨b2, o2, ra', rc', na', nc', rfl, hb2, y0, y1, y2, y3, y4, y5, _, hr', hn', hf'⟩ := (h2.below hbr).at_ hlt2
        have hb1' : b1 < wr.heap.size := Nat.lt_of_lt_of_le hb1 hbr.size
        have hb2' : b2 < wr.heap.size := Nat.lt_of_lt_of_le hb2 hbr.size
        cases hsm : sameD l[k] m[k]
        · have HS := hide (sameL_false l m k hlt hlt2 hsm)
          have HSM := hide hsm
          go_wp2_with (go_at_call 44; refine (same_closure l[k] m[k] ra rc na nc ra' rc' na' nc' _ ((hr.keep fun p hp => (World.cell?_alloc_lt _ _ _ (by have := hbr.size; simp; omega)).trans (World.cell?_alloc_lt _ _ _ (Nat.lt_of_lt_of_le hp hbr.size))).more (by have := hbr.size; simp; omega)) ((hn.keep fun p hp => (World.cell?_alloc_lt _ _ _ (by have := hbr.size; simp; omega)).trans (World.cell?_alloc_lt _ _ _ (Nat.lt_of_lt_of_le hp hbr.size))).more (by have := hbr.size; simp; omega)) ((hr'.keep fun p hp => (World.cell?_alloc_lt _ _ _ (by have := hbr.size; simp; omega)).trans (World.cell?_alloc_lt _ _ _ (Nat.lt_of_lt_of_le hp hbr.size))).more (by have := hbr.size; simp; omega)) ((hn'.keep fun p hp => (World.cell?_alloc_lt _ _ _ (by have := hbr.size; simp; omega)).trans (World.cell?_alloc_lt _ _ _ (Nat.lt_of_lt_of_le hp hbr.size))).more (by have := hbr.size; simp; omega)) hf hf').mono ?_; rintro e w3 ⟨rfl, hb3⟩)
          go_ret
          exact ⟨ret_congr (by rw [HS.out]; rfl), ((hbr.alloc hbr.size _).alloc (by have := hbr.size; simp; omega) _).trans (hb3.mono (by have := hbr.size; simp; omega))⟩
        · have HSM := hide hsm
          go_wp2_with (go_at_call 44; refine (same_closure l[k] m[k] ra rc na nc ra' rc' na' nc' _ ((hr.keep fun p hp => (World.cell?_alloc_lt _ _ _ (by have := hbr.size; simp; omega)).trans (World.cell?_alloc_lt _ _ _ (Nat.lt_of_lt_of_le hp hbr.size))).more (by have := hbr.size; simp; omega)) ((hn.keep fun p hp => (World.cell?_alloc_lt _ _ _ (by have := hbr.size; simp; omega)).trans (World.cell?_alloc_lt _ _ _ (Nat.lt_of_lt_of_le hp hbr.size))).more (by have := hbr.size; simp; omega)) ((hr'.keep fun p hp => (World.cell?_alloc_lt _ _ _ (by have := hbr.size; simp; omega)).trans (World.cell?_alloc_lt _ _ _ (Nat.lt_of_lt_of_le hp hbr.size))).more (by have := hbr.size; simp; omega)) ((hn'.keep fun p hp => (World.cell?_alloc_lt _ _ _ (by have := hbr.size; simp; omega)).trans (World.cell?_alloc_lt _ _ _ (Nat.lt_of_lt_of_le hp hbr.size))).more (by have := hbr.size; simp; omega)) hf hf').mono ?_; rintro e w3 ⟨rfl, hb3⟩)
          go_roundw
          case rel => exact ⟨k + 1, by omega, by go_num, ((hbr.alloc hbr.size _).alloc (by have := hbr.size; simp; omega) _).trans (hb3.mono (by have := hbr.size; simp; omega)), fun j q1 q2 h1 => by
            rcases Nat.lt_or_ge j k with h2 | h2
            · exact hs j q1 q2 h2
            · obtain rfl : j = k := by omega
              exact HSM⟩
          case measure => simp [intOf]; omega
      · have HS := hide (sameL_true l m HL.out fun j q1 q2 => hs j q1 q2 (by omega))
        go_wp2_with fail
        go_ret
        exact ⟨ret_congr (by rw [HS.out]; rfl), hbr⟩
set_option maxHeartbeats 400000 in
theorem same_prog (A1 A2 : Option Addr) (c1 c2 : Nat) (l m : List Decl) (w : World) (h1 : Decls w w.heap.size A1 l) (h2 : Decls w w.heap.size A2 m) (hl : l.length ≤ 9223372036854775807) (hm : m.length ≤ 9223372036854775807) :
    Calls Tryz.prog 24 #[.slice A1 l.length c1, .slice A2 m.length c2] w fun e w' => e = .returned (.bool (sameL l m)) ∧ Below w.heap.size w w' := by
  go_enter Tryz.func24, Tryz.ntmps24
  go_wp2_with (go_at_call 43; refine (equalFunc_same A1 A2 c1 c2 l m w h1 h2 hl hm).mono ?_; rintro e w1 ⟨rfl, hb⟩)
  go_ret
  exact ⟨rfl, hb⟩
end Go.Proofs.YtanhkeeifnimgaaGreatDoor
