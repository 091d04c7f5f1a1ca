/- A part of the claim: see its last text. -/
import Derived.Test.YtlnjaemdelnceaaGreatDoorUK03
import Derived.Deep.RegionLaw
import Derived.Test.YtlnjaemdelnceaaGreatDoorUK06
import Derived.Test.YtlnjaemdelnceaaGreatDoorUK11
import Derived.Deep.RegionHeld3
import Derived.IntWalk

set_option maxRecDepth 100000
set_option maxHeartbeats 16000000
namespace Go.Proofs.YtlnjaemdelnceaaGreatDoor
open Go Go.RowKit Go.Proofs
def KT (T : TypeId) (w w' : World) : Prop := w.heap.size ≤ w'.heap.size ∧ ∀ (g : Nat) (cur : Array Value), Blk w g T cur → Blk w' g T cur
section
variable {T T' : TypeId} {w w' w'' : World}
theorem KT.refl (T : TypeId) (w : World) : KT T w w := ⟨Nat.le_refl _, fun _ _ h => h⟩
theorem KT.trans (h : KT T w w') (h' : KT T w' w'') : KT T w w'' := ⟨Nat.le_trans h.1 h'.1, fun g cur hb => h'.2 g cur (h.2 g cur hb)⟩
theorem KT.below (h : Below w.heap.size w w') : KT T w w' := ⟨h.size, fun _ _ hb => hb.below h hb.lt⟩
theorem KT.alloc (w : World) (o : Obj) : KT T w (w.alloc o) := ⟨by simp, fun _ _ hb => hb.alloc o⟩
theorem KT.drew (w : World) : KT T w w.drew := ⟨Nat.le_refl _, fun _ _ hb => hb⟩
theorem KT.grown {B k n : Nat} {v : Value} {xs : List Value} (hown : w.ownsRow B T' k v n xs) (hne : T ≠ T') (hg : w.grownBy w' v.ownBlock) : KT T w w' := by
 refine ⟨hg.size, fun g cur hb => hb.grown hg fun e => ?_⟩
 rcases hown.2 with ⟨rfl, _⟩ | ⟨g2, cap, cur2, rfl, _, hh, _⟩
 · cases e
 · obtain rfl : g = g2 := Option.some.inj e
   rw [show w.heap[g]? = some (.cells cur T (0, 0)) from hb] at hh
   simp at hh
   exact hne hh.2
theorem KT.set_ {g : Nat} {cs : Array Value} (h : Blk w g T' cs) (hne : T ≠ T') (i : Nat) (v : Value) : KT T w (w.setCell ⟨g, i, none⟩ v) := by
 refine ⟨by simp, fun g2 cur hb => hb.far (fun e => ?_) v⟩
 simp only at e
 subst e
 rw [Blk] at hb h
 rw [hb] at h
 simp at h
 exact hne h.2
end
def unitCells (l : List UnitM) : List Value := l.flatMap fun u => [.int .i64 u.1, .int .i64 u.2]
theorem unitCells_len (l : List UnitM) : (unitCells l).length = l.length * 2 := by
 induction l with
 | nil => rfl
 | cons a l ih => simp [unitCells] at ih ⊢; omega
theorem unitCells_append (a b : List UnitM) : unitCells (a ++ b) = unitCells a ++ unitCells b := by simp [unitCells]
theorem unitCells_at : ∀ (l : List UnitM) (i : Nat) (hi : i < l.length), (unitCells l)[i * 2]? = some (.int .i64 l[i].1) ∧ (unitCells l)[i * 2 + 1]? = some (.int .i64 l[i].2)
 | u :: l, 0, _ => ⟨rfl, rfl⟩
 | u :: l, i + 1, hi => by
   have := unitCells_at l i (by simpa using hi)
   simp only [List.getElem_cons_succ]
   rw [show (i + 1) * 2 = i * 2 + 2 by omega]
   exact this
theorem unitCells_one (l : List UnitM) : ∀ u ∈ unitCells l, u.oneCell' = true := by
 intro u hu
 simp only [unitCells, List.mem_flatMap] at hu
 obtain ⟨x, _, hx⟩ := hu
 simp at hx
 rcases hx with rfl | rfl <;> rfl
theorem unitCells_take (l : List UnitM) : ∀ i, (unitCells l).take (i * 2) = unitCells (l.take i) := by
 induction l with
 | nil => intro i; simp [unitCells]
 | cons a l ih =>
   intro i
   match i with
   | 0 => simp [unitCells]
   | i + 1 =>
     have := ih i
     rw [show (i + 1) * 2 = i * 2 + 2 by omega]
     simpa [unitCells] using this
def UT (w : World) (v : Value) (l : List UnitM) : Prop :=
 ∃ (A : Option Addr) (c : Nat), v = .slice A l.length c ∧ l.length ≤ c ∧ c ≤ 9223372036854775807 ∧
  (0 < l.length → ∃ (g off : Nat) (cur : Array Value), A = some ⟨g, off, none⟩ ∧ Blk w g 87 cur ∧ ∀ (j : Nat) (u : Value), (unitCells l)[j]? = some u → cur[off + j]? = some u)
theorem UT.keep {w w' : World} {v : Value} {l : List UnitM} (h : UT w v l) (hk : KT 87 w w') : UT w' v l := by
 obtain ⟨A, c, e, h1, h2, h3⟩ := h
 exact ⟨A, c, e, h1, h2, fun hl => by obtain ⟨g, off, cur, e2, hb, hc⟩ := h3 hl; exact ⟨g, off, cur, e2, hk.2 _ _ hb, hc⟩⟩
theorem UT.nil_ (w : World) : UT w (.slice none 0 0) [] := ⟨none, 0, rfl, by simp, by simp, fun h => absurd h (by simp)⟩
theorem UT.reads {w : World} {A : Option Addr} {c : Nat} {l : List UnitM} (h : UT w (.slice A l.length c) l) : Reads w w.heap.size 2 A l.length (unitCells l) := by
 obtain ⟨A', c', e, h1, h2, h3⟩ := h
 injection e with e1 e2 e3
 subst e1 e3
 refine ⟨unitCells_len l, fun hn => ?_⟩
 obtain ⟨g, off, cur, rfl, hb, hc⟩ := h3 hn
 exact ⟨_, rfl, hb.lt, fun j u hu => by rw [add_none, hb.cell]; exact hc j u hu⟩
theorem UT.form {w : World} {v : Value} {l : List UnitM} (h : UT w v l) : ∃ A c, v = .slice A l.length c ∧ l.length ≤ c ∧ c ≤ 9223372036854775807 := by
 obtain ⟨A, c, e, h1, h2, _⟩ := h
 exact ⟨A, c, e, h1, h2⟩
theorem UT.at_ {w : World} {A : Option Addr} {c : Nat} {l : List UnitM} (h : UT w (.slice A l.length c) l) {i : Nat} (hi : i < l.length) :
    ∃ b off, A = some ⟨b, off, none⟩ ∧ b < w.heap.size ∧ w.cell? ⟨b, off + i * 2, none⟩ = some (.int .i64 l[i].1) ∧ w.cell? ⟨b, off + i * 2 + 1, none⟩ = some (.int .i64 l[i].2) := by
 obtain ⟨A', c', e, h1, h2, h3⟩ := h
 injection e with e1 e2 e3
 subst e1 e3
 obtain ⟨g, off, cur, rfl, hb, hc⟩ := h3 (by omega)
 obtain ⟨u1, u2⟩ := unitCells_at l i hi
 exact ⟨g, off, rfl, hb.lt, by rw [hb.cell]; exact hc _ _ u1, by rw [hb.cell]; exact hc _ _ u2⟩
def OwnU (B : Nat) (w : World) (v : Value) (l : List UnitM) : Prop := w.ownsRow B 87 2 v l.length (unitCells l)
theorem infoU : (Tryz.prog.info? 87).map (fun i => (i.zero, i.size, i.bytes)) = some (some (.agg #[.int .i64 0, .int .i64 0]), 2, 16) := by kernel_rfl
theorem infoR : (Tryz.prog.info? 83).map (fun i => (i.zero, i.size, i.bytes)) = some (some (.slice none 0 0), 1, 24) := by kernel_rfl
theorem OwnU.ut {B : Nat} {w : World} {v : Value} {l : List UnitM} (h : OwnU B w v l) : UT w v l := by
 rcases h.2 with ⟨rfl, h0⟩ | ⟨g, cap, cur, rfl, _, hh, hc, hm, _, ht⟩
 · have : l = [] := List.eq_nil_of_length_eq_zero h0
   subst this
   exact UT.nil_ w
 · have hx : maxLen = 9223372036854775807 := by decide
   refine ⟨_, cap, rfl, hc, by omega, fun _ => ⟨g, 0, cur, rfl, hh, fun j u hu => ?_⟩⟩
   rw [← ht] at hu
   rw [List.getElem?_take] at hu
   split at hu
   · simpa using hu
   · cases hu
theorem OwnU.nil_ (B : Nat) (w : World) : OwnU B w (.slice none 0 0) [] := World.ownsRow_nil _ _ _ _
theorem OwnU.empty {B : Nat} (w : World) (hB : B ≤ w.heap.size) {g : Nat} (hg : g = w.heap.size) : OwnU B (w.alloc (.cells #[] 87)) (.slice (some ⟨g, 0, none⟩) 0 0) [] := by
 subst hg
 have := World.ownsRow_lit (e := 87) (size := 2) w #[] 0 hB (by decide) (by simp)
 simpa [OwnU, unitCells] using this
theorem OwnU.keep {B : Nat} {w w' : World} {v : Value} {l : List UnitM} (h : OwnU B w v l) (hk : KT 87 w w') : OwnU B w' v l := by
 refine ⟨h.1, ?_⟩
 rcases h.2 with h0 | ⟨g, cap, cur, e, hb, hh, h3⟩
 · exact .inl h0
 · exact .inr ⟨g, cap, cur, e, hb, hk.2 _ _ hh, h3⟩
theorem OwnU.lt {B : Nat} {w : World} {v : Value} {l : List UnitM} (h : OwnU B w v l) : ∀ k, v.ownBlock = some k → B ≤ k ∧ k < w.heap.size := World.ownsRow.lt h
def OP (B : Nat) (w : World) (v : Value) (p : PlaceM) : Prop :=
 ∃ xs : List Value, w.ownsRow B 83 1 v p.length xs ∧ xs.length = p.length ∧ ∀ i (hi : i < p.length), ∃ u, xs[i]? = some u ∧ UT w u p[i]
theorem OP.nil_ (B : Nat) (w : World) : OP B w (.slice none 0 0) [] := ⟨[], World.ownsRow_nil _ _ _ _, rfl, fun i hi => absurd hi (by simp)⟩
theorem OP.keep {B : Nat} {w w' : World} {v : Value} {p : PlaceM} (h : OP B w v p) (h1 : KT 87 w w') (h2 : KT 83 w w') : OP B w' v p := by
 obtain ⟨xs, ho, hl, hu⟩ := h
 refine ⟨xs, ⟨ho.1, ?_⟩, hl, fun i hi => by obtain ⟨u, e, h⟩ := hu i hi; exact ⟨u, e, h.keep h1⟩⟩
 rcases ho.2 with h0 | ⟨g, cap, cur, e, hb, hh, h3⟩
 · exact .inl h0
 · exact .inr ⟨g, cap, cur, e, hb, h2.2 _ _ hh, h3⟩
theorem OP.below {B : Nat} {w w' : World} {v : Value} {p : PlaceM} (h : OP B w v p) (hb : Below w.heap.size w w') : OP B w' v p := h.keep (KT.below hb) (KT.below hb)
theorem OP.lt {B : Nat} {w : World} {v : Value} {p : PlaceM} (h : OP B w v p) : ∀ k, v.ownBlock = some k → B ≤ k ∧ k < w.heap.size := by
 obtain ⟨xs, ho, _⟩ := h
 exact World.ownsRow.lt ho
def PT (w : World) (v : Value) (p : PlaceM) : Prop :=
 ∃ (A : Option Addr) (c : Nat) (xs : List Value), v = .slice A p.length c ∧ p.length ≤ c ∧ c ≤ 9223372036854775807 ∧ xs.length = p.length ∧
  (0 < p.length → ∃ (g off : Nat) (cur : Array Value), A = some ⟨g, off, none⟩ ∧ Blk w g 83 cur ∧ ∀ (j : Nat) (u : Value), xs[j]? = some u → cur[off + j]? = some u) ∧
  ∀ i (hi : i < p.length), ∃ u, xs[i]? = some u ∧ UT w u p[i]
theorem PT.keep {w w' : World} {v : Value} {p : PlaceM} (h : PT w v p) (h1 : KT 87 w w') (h2 : KT 83 w w') : PT w' v p := by
 obtain ⟨A, c, xs, e, hl, hc, hx, hr, hu⟩ := h
 exact ⟨A, c, xs, e, hl, hc, hx, fun hp => by obtain ⟨g, off, cur, e2, hb, hj⟩ := hr hp; exact ⟨g, off, cur, e2, h2.2 _ _ hb, hj⟩, fun i hi => by obtain ⟨u, e, h⟩ := hu i hi; exact ⟨u, e, h.keep h1⟩⟩
theorem PT.below {w w' : World} {v : Value} {p : PlaceM} (h : PT w v p) (hb : Below w.heap.size w w') : PT w' v p := h.keep (KT.below hb) (KT.below hb)
theorem PT.form {w : World} {v : Value} {p : PlaceM} (h : PT w v p) : ∃ A c, v = .slice A p.length c ∧ p.length ≤ c ∧ c ≤ 9223372036854775807 := by
 obtain ⟨A, c, _, e, h1, h2, _⟩ := h
 exact ⟨A, c, e, h1, h2⟩
theorem PT.at_ {w : World} {A : Option Addr} {c : Nat} {p : PlaceM} (h : PT w (.slice A p.length c) p) {i : Nat} (hi : i < p.length) :
    ∃ b off A2 c2, A = some ⟨b, off, none⟩ ∧ b < w.heap.size ∧ w.cell? ⟨b, off + i, none⟩ = some (.slice A2 p[i].length c2) ∧ UT w (.slice A2 p[i].length c2) p[i] := by
 obtain ⟨A', c', xs, e, hl, hc, hx, hr, hu⟩ := h
 injection e with e1 e2 e3
 subst e1 e3
 obtain ⟨g, off, cur, rfl, hb, hj⟩ := hr (by omega)
 obtain ⟨u, hxu, hut⟩ := hu i hi
 obtain ⟨A2, c2, rfl, _⟩ := hut.form
 exact ⟨g, off, A2, c2, rfl, hb.lt, by rw [hb.cell]; exact hj i _ hxu, hut⟩
theorem OP.pt {B : Nat} {w : World} {v : Value} {p : PlaceM} (h : OP B w v p) : PT w v p := by
 obtain ⟨xs, ho, hl, hu⟩ := h
 rcases ho.2 with ⟨rfl, h0⟩ | ⟨g, cap, cur, rfl, _, hh, hc, hm, _, ht⟩
 · have : p = [] := List.eq_nil_of_length_eq_zero h0
   subst this
   exact ⟨none, 0, xs, rfl, by simp, by simp, hl, fun h => absurd h (by simp), hu⟩
 · have hx : maxLen = 9223372036854775807 := by decide
   refine ⟨_, cap, xs, rfl, hc, by omega, hl, fun _ => ⟨g, 0, cur, rfl, hh, fun j u hu => ?_⟩, hu⟩
   rw [← ht] at hu
   rw [List.getElem?_take] at hu
   split at hu
   · simpa using hu
   · cases hu
theorem OP.snoc {B : Nat} {w w' : World} {v v' u : Value} {p : PlaceM} {l : List UnitM} (h : OP B w v p) (hu : UT w u l) {B2 : Nat} {A : Option Addr} (_hr : Reads w B2 1 A 1 [u])
    (hg : w.grownBy w' v.ownBlock) (ho' : ∀ xs, w.ownsRow B 83 1 v p.length xs → w'.ownsRow B 83 1 v' (p.length + 1) (xs ++ [u])) : OP B w' v' (p ++ [l]) := by
 obtain ⟨xs, ho, hl, hx⟩ := h
 have hk : KT 87 w w' := KT.grown ho (by decide) hg
 refine ⟨xs ++ [u], by rw [List.length_append]; exact ho' xs ho, by simp [hl], fun i hi => ?_⟩
 by_cases hip : i < p.length
 · obtain ⟨y, e, hy⟩ := hx i hip
   refine ⟨y, by rw [List.getElem?_append_left (by omega)]; exact e, ?_⟩
   rw [List.getElem_append_left hip]; exact hy.keep hk
 · have : i = p.length := by simp at hi; omega
   subst this
   exact ⟨u, by rw [List.getElem?_append_right (by omega)]; simp [hl], by simpa using hu.keep hk⟩
theorem wp_append_row {o : Oper} {a : Act} {K : Act → World → Prop} {Q : Exit → Act → World → Prop} {w : World} (s x : Operand)
    (ho : o.op = .call { callee := .builtin .append, args := #[s, x], argTypes := #[33, 33] })
    (base : Nat) (v : Value) (p : PlaceM) (hs : a.eval s = v) (hown : OP base w v p)
    (B : Nat) (A : Option Addr) (c : Nat) (u : Value) (l : List UnitM) (hx : a.eval x = .slice A 1 c) (hr : Reads w B 1 A 1 [u]) (hu : UT w u l)
    (hlen : p.length ≤ 1000000) (hbase : base ≤ w.heap.size)
    (h : ∀ v' w', OP base w' v' (p ++ [l]) → w.grownBy w' v.ownBlock → (v'.ownBlock = v.ownBlock ∨ v'.ownBlock = some w.heap.size) → K (a.put o.dst v') w') : o.wp Tryz.prog a w K Q := by
 obtain ⟨i0, hi, hz0, hz1, hz2⟩ := info_parts infoR
 have hown' := hown
 obtain ⟨xs, ho1, hl, hxs⟩ := hown
 refine wp_append_any w s x 33 ho base 83 i0 _ 1 24 Tryz.underlying33 hi hz0 hz1 hz2 rfl (by omega) v p.length xs hs ho1 B A 1 c [u] hx hr ?_ (by unfold maxLen; omega) (by omega) hbase
  fun v' w' h2 h3 h4 => h v' w' ?_ h3 h4
 · intro y hy
   obtain rfl := List.mem_singleton.1 hy
   obtain ⟨A2, c2, rfl, _⟩ := hu.form
   rfl
 · refine OP.snoc ⟨xs, ho1, hl, hxs⟩ hu hr h3 fun xs' ho' => ?_
   obtain rfl : xs' = xs := by
    rcases ho1.2 with ⟨rfl, h0⟩ | ⟨g, cap, cur, rfl, _, hh, _, _, _, ht⟩
    · have e1 := ho1.1
      have e2 := ho'.1
      have z1 : xs = [] := List.eq_nil_of_length_eq_zero (by omega)
      have z2 : xs' = [] := List.eq_nil_of_length_eq_zero (by omega)
      rw [z1, z2]
    · rcases ho'.2 with ⟨he, _⟩ | ⟨g2, cap2, cur2, he, _, hh2, _, _, _, ht2⟩
      · cases he
      · have he1 : g = g2 := by have h1 := (Value.slice.inj he).1; have h2 := Option.some.inj h1; exact congrArg Addr.block h2
        subst he1
        have hcur : cur = cur2 := (Obj.cells.inj (Option.some.inj (hh.symm.trans hh2))).1
        have ht3 := ht2
        rw [← hcur] at ht3
        exact ht3.symm.trans ht
   exact h2
theorem append_row {ops : Array Oper} {rest : List Oper} {o : Oper} {a : Act} {Q : Exit → Act → World → Prop} {w : World} (hgd : o.guard = none) (s x : Operand)
    (ho : o.op = .call { callee := .builtin .append, args := #[s, x], argTypes := #[33, 33] })
    (base : Nat) (v : Value) (p : PlaceM) (hs : a.eval s = v) (hown : OP base w v p)
    (B : Nat) (A : Option Addr) (c : Nat) (u : Value) (l : List UnitM) (hx : a.eval x = .slice A 1 c) (hr : Reads w B 1 A 1 [u]) (hu : UT w u l)
    (hlen : p.length ≤ 1000000) (hbase : base ≤ w.heap.size)
    (h : ∀ v' w', OP base w' v' (p ++ [l]) → w.grownBy w' v.ownBlock → (v'.ownBlock = v.ownBlock ∨ v'.ownBlock = some w.heap.size) → wpList Tryz.prog ops Q rest (a.put o.dst v') w') : wpList Tryz.prog ops Q (o :: rest) a w :=
 wpList_plain hgd fun _ hK => wp_append_row s x ho base v p hs hown B A c u l hx hr hu hlen hbase fun v' w' h2 h3 h4 => hK _ _ (h v' w' h2 h3 h4)
theorem wp_append_units {o : Oper} {a : Act} {K : Act → World → Prop} {Q : Exit → Act → World → Prop} {w : World} (s x : Operand)
    (ho : o.op = .call { callee := .builtin .append, args := #[s, x], argTypes := #[83, 83] })
    (base : Nat) (v : Value) (l : List UnitM) (hs : a.eval s = v) (hown : OwnU base w v l)
    (B : Nat) (A : Option Addr) (n c : Nat) (l2 : List UnitM) (hx : a.eval x = .slice A n c) (hn : n = l2.length) (hr : Reads w B 2 A n (unitCells l2))
    (hlen : l.length + l2.length ≤ 1000000) (hbase : base ≤ w.heap.size)
    (h : ∀ v' w', OwnU base w' v' (l ++ l2) → w.grownBy w' v.ownBlock → (v'.ownBlock = v.ownBlock ∨ v'.ownBlock = some w.heap.size) → K (a.put o.dst v') w') : o.wp Tryz.prog a w K Q := by
 subst hn
 obtain ⟨i0, hi, hz0, hz1, hz2⟩ := info_parts infoU
 refine wp_append_any w s x 83 ho base 87 i0 _ 2 16 Tryz.underlying83 hi hz0 hz1 hz2 rfl (by omega) v l.length (unitCells l) hs hown B A l2.length c (unitCells l2) hx hr (unitCells_one l2) (by unfold maxLen; omega) (by omega) hbase
  fun v' w' h2 h3 h4 => h v' w' ?_ h3 h4
 unfold OwnU; rw [unitCells_append, List.length_append]; exact h2
theorem append_units {ops : Array Oper} {rest : List Oper} {o : Oper} {a : Act} {Q : Exit → Act → World → Prop} {w : World} (hgd : o.guard = none) (s x : Operand)
    (ho : o.op = .call { callee := .builtin .append, args := #[s, x], argTypes := #[83, 83] })
    (base : Nat) (v : Value) (l : List UnitM) (hs : a.eval s = v) (hown : OwnU base w v l)
    (B : Nat) (A : Option Addr) (n c : Nat) (l2 : List UnitM) (hx : a.eval x = .slice A n c) (hn : n = l2.length) (hr : Reads w B 2 A n (unitCells l2))
    (hlen : l.length + l2.length ≤ 1000000) (hbase : base ≤ w.heap.size)
    (h : ∀ v' w', OwnU base w' v' (l ++ l2) → w.grownBy w' v.ownBlock → (v'.ownBlock = v.ownBlock ∨ v'.ownBlock = some w.heap.size) → wpList Tryz.prog ops Q rest (a.put o.dst v') w') : wpList Tryz.prog ops Q (o :: rest) a w :=
 wpList_plain hgd fun _ hK => wp_append_units s x ho base v l hs hown B A n c l2 hx hn hr hlen hbase fun v' w' h2 h3 h4 => hK _ _ (h v' w' h2 h3 h4)
theorem UT.new (w : World) (l : List UnitM) {g c : Nat} (hg : g = w.heap.size) (hc : c = l.length) (hl : l.length ≤ 1000000) : UT (w.alloc (.cells (unitCells l).toArray 87)) (.slice (some ⟨g, 0, none⟩) l.length c) l := by
 subst hg hc
 exact ⟨_, l.length, rfl, Nat.le_refl _, by omega, fun _ => ⟨w.heap.size, 0, _, rfl, Blk.new w _ _, fun j u hu => by simpa using hu⟩⟩
theorem unitsP_no {p : PlaceM} {item : Int} (h : exI item p.length = false) : unitsP p item = [] := by simp [unitsP, h]
theorem unitsP_yes {p : PlaceM} {j : Nat} (hj : j < p.length) : unitsP p ((j : Int) + 1) = p[j] := by
 have : exI ((j : Int) + 1) p.length = true := by simp [exI]; omega
 simp [unitsP, this, hj]
def PredUnit (g : Nat) (lb : Array Value) (l : List UnitM) (p : UnitM → Bool) (w : World) : Prop :=
 ∀ (i : Nat) (_ : i < l.length) (W : World), Below w.heap.size w W → Calls Tryz.prog g (#[.agg #[.int .i64 l[i].1, .int .i64 l[i].2]] ++ lb) W fun e w' => e = .returned (.bool (p l[i])) ∧ Below W.heap.size W w'
def findI (l : List UnitM) (mc : Int) : Int := firstI (fun u => decide (u.1 = mc)) l
theorem findI_eq (l : List UnitM) (mc : Int) : findI l mc = match findU l mc with | some k => (k : Int) | none => -1 := rfl
structure MapD (B : Nat) (w : World) (v : Value) (p : PlaceM) (xs : List Value) : Prop where
 own : w.ownsRow B 83 1 v p.length xs
 len : xs.length = p.length
 each : ∀ i (hi : i < p.length), ∃ u, xs[i]? = some u ∧ OwnU B w u p[i]
 apart : ∀ (i j : Nat) (u u' : Value) (g : Nat), i < j → xs[i]? = some u → xs[j]? = some u' → u.ownBlock = some g → u'.ownBlock ≠ some g
theorem MapD.keep {B : Nat} {w w' : World} {v : Value} {p : PlaceM} {xs : List Value} (h : MapD B w v p xs) (h1 : KT 87 w w') (h2 : KT 83 w w') : MapD B w' v p xs := by
 refine ⟨⟨h.own.1, ?_⟩, h.len, fun i hi => by obtain ⟨u, e, hu⟩ := h.each i hi; exact ⟨u, e, hu.keep h1⟩, h.apart⟩
 rcases h.own.2 with h0 | ⟨g, cap, cur, e, hb, hh, h3⟩
 · exact .inl h0
 · exact .inr ⟨g, cap, cur, e, hb, h2.2 _ _ hh, h3⟩
theorem MapD.snoc {B : Nat} {w w' : World} {v v' u : Value} {p : PlaceM} {l : List UnitM} {xs : List Value} {n : Nat} (h : MapD B w v p xs) (hn : ∀ (i : Nat) (x : Value) (g : Nat), xs[i]? = some x → x.ownBlock = some g → g < n) (hu : OwnU B w u l) (hug : ∀ g, u.ownBlock = some g → n ≤ g)
    (hg : w.grownBy w' v.ownBlock) (ho' : w'.ownsRow B 83 1 v' (p.length + 1) (xs ++ [u])) : MapD B w' v' (p ++ [l]) (xs ++ [u]) := by
 have hk : KT 87 w w' := KT.grown h.own (by decide) hg
 refine ⟨by rw [List.length_append]; exact ho', by simp [h.len], fun i hi => ?_, fun i j x x' g hij hi hj e => ?_⟩
 · by_cases hip : i < p.length
   · obtain ⟨y, e, hy⟩ := h.each i hip
     refine ⟨y, by rw [List.getElem?_append_left (by rw [h.len]; omega)]; exact e, ?_⟩
     rw [List.getElem_append_left hip]; exact hy.keep hk
   · have : i = p.length := by simp at hi; omega
     subst this
     exact ⟨u, by rw [List.getElem?_append_right (by rw [h.len]; omega)]; simp [h.len], by simpa using hu.keep hk⟩
 · by_cases hjl : j < xs.length
   · rw [List.getElem?_append_left (by omega)] at hi hj
     exact h.apart i j x x' g hij hi hj e
   · have hj2 : j < (xs ++ [u]).length := (List.getElem?_eq_some_iff.1 hj).1
     have : j = xs.length := by simp at hj2; omega
     subst this
     rw [List.getElem?_append_left (by omega)] at hi
     rw [List.getElem?_append_right (Nat.le_refl _)] at hj
     simp at hj
     subst hj
     intro e2
     have := hn i x g hi e
     have := hug g e2
     omega
def PlaceR (w : World) (p : PlaceM) (e : Ending) (w' : World) : Prop := ∃ A c, e = .returned (.agg #[.slice A p.length c]) ∧ PT w' (.slice A p.length c) p ∧ Below w.heap.size w w'
theorem MapD.op {B : Nat} {w : World} {v : Value} {p : PlaceM} {xs : List Value} (h : MapD B w v p xs) : OP B w v p := ⟨xs, h.own, h.len, fun i hi => by obtain ⟨u, e, hu⟩ := h.each i hi; exact ⟨u, e, hu.ut⟩⟩
end Go.Proofs.YtlnjaemdelnceaaGreatDoor
