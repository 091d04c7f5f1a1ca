/- A slice of ints of the call's own; the cells of a slice of tokens. Conditions: none. -/
import Derived.Test.YtanhkeeifnimgaaDoorLex16f
namespace Go.Proofs.YtanhkeeifnimgaaDoor
open Go Go.RowKit Go.Proofs

/-- a slice of ints of the call's own (blocks from B on) -/
def OwnI (B : Nat) (w : World) (v : Value) (l : List Int) : Prop := w.ownsRow B 3 1 v l.length (l.map (.int .i64))
theorem infoI : (Tryd.prog.info? 3).map (fun i => (i.zero, i.size, i.bytes)) = some (some (.int .i64 0), 1, 8) := by kernel_rfl
theorem OwnI.nil_ (B : Nat) (w : World) : OwnI B w (.slice none 0 0) [] := World.ownsRow_nil _ _ _ _
theorem OwnI.new {B : Nat} (w : World) (l : List Int) (hB : B ≤ w.heap.size) (hl : l.length ≤ maxLen) : OwnI B (w.alloc (.cells (l.map (Value.int .i64)).toArray 3)) (.slice (some ⟨w.heap.size, 0, none⟩) l.length l.length) l := by
  have := World.ownsRow_lit (e := 3) (size := 1) w (l.map (Value.int .i64)).toArray l.length hB hl (by simp)
  simpa [OwnI] using this
theorem OwnI.kept {B : Nat} {w w' : World} {v : Value} {l : List Int} (h : OwnI B w v l) {row : Option Nat} (hg : w.grownBy w' row) (hne : v.ownBlock = none ∨ v.ownBlock ≠ row) : OwnI B w' v l := World.ownsRow.kept h hg hne
theorem OwnI.below {B : Nat} {w w' : World} {v : Value} {l : List Int} (h : OwnI B w v l) (hb : Below w.heap.size w w') : OwnI B w' v l := by
  refine h.kept (grown_of_below hb none) ?_
  cases hv : v.ownBlock
  · exact .inl rfl
  · exact .inr (by simp)
theorem OwnI.alloc {B : Nat} {w : World} {v : Value} {l : List Int} (h : OwnI B w v l) (o : Obj) : OwnI B (w.alloc o) v l := World.ownsRow.alloc h o
theorem OwnI.lt {B : Nat} {w : World} {v : Value} {l : List Int} (h : OwnI B w v l) : ∀ k, v.ownBlock = some k → B ≤ k ∧ k < w.heap.size := World.ownsRow.lt h
theorem OwnI.form {B : Nat} {w : World} {v : Value} {l : List Int} (h : OwnI B w v l) : ∃ A c, v = .slice A l.length c ∧ l.length ≤ c ∧ Ints w w.heap.size A l := by
  have h2 := h
  rcases h2.2 with ⟨rfl, h0⟩ | ⟨g, cap, cur, rfl, _, _, hc, _⟩
  · have : l = [] := List.eq_nil_of_length_eq_zero h0
    subst this
    exact ⟨none, 0, rfl, Nat.le_refl _, Reads.none_⟩
  · exact ⟨_, _, rfl, hc, Reads.of_own h⟩
theorem OwnS.form3 {B : Nat} {w : World} {v : Value} {l : List ByteArray} (h : OwnS B w v l) : ∃ A c, v = .slice A l.length c ∧ l.length ≤ c ∧ Strs w w.heap.size A l := by
  have h2 := h
  rcases h2.2 with ⟨rfl, h0⟩ | ⟨g, cap, cur, rfl, _, _, hc, _⟩
  · have : l = [] := List.eq_nil_of_length_eq_zero h0
    subst this
    exact ⟨none, 0, rfl, Nat.le_refl _, Reads.none_⟩
  · exact ⟨_, _, rfl, hc, Reads.of_own h⟩
theorem append_ints {ops : Array Oper} {rest : List Oper} {o : Oper} {a : Act} {Q : Exit → Act → World → Prop} {w : World} (hgd : o.guard = none) (s x : Operand)
    (ho : o.op = .call { callee := .builtin .append, args := #[s, x], argTypes := #[36, 36] })
    (base : Nat) (v : Value) (l : List Int) (hs : a.eval s = v) (hown : OwnI base w v l)
    (B : Nat) (A : Option Addr) (c : Nat) (m : List Int) (hx : a.eval x = .slice A m.length c) (hr : Ints w B A m)
    (hlen : l.length + m.length ≤ 1099511627776) (hbase : base ≤ w.heap.size)
    (h : ∀ v' w', OwnI base w' v' (l ++ m) → w.grownBy w' v.ownBlock → (v'.ownBlock = v.ownBlock ∨ v'.ownBlock = some w.heap.size) → wpList Tryd.prog ops Q rest (a.put o.dst v') w') : wpList Tryd.prog ops Q (o :: rest) a w := by
  obtain ⟨i0, hi, hz0, hz1, hz2⟩ := info_parts infoI
  refine wpList_plain hgd fun _ hK => wp_append_any w s x 36 ho base 3 i0 _ 1 8 Tryd.underlying36 hi hz0 hz1 hz2 rfl (by omega) v l.length (l.map (.int .i64)) hs hown B A m.length c (m.map (.int .i64)) hx hr ?_ ?_ ?_ hbase
    fun v' w' h2 h3 h4 => hK _ _ (h v' w' ?_ h3 h4)
  · intro u hu
    obtain ⟨y, _, rfl⟩ := List.mem_map.1 hu
    rfl
  · unfold maxLen; omega
  · omega
  · unfold OwnI; rw [List.map_append, List.length_append]; exact h2
theorem Ints.newRow2 (w : World) {b : Nat} (t : TypeId) (l : List Int) (hb : b = w.heap.size) : Ints (w.alloc (.cells (l.map (Value.int .i64)).toArray t)) (w.heap.size + 1) (some ⟨b, 0, none⟩) l := by
  subst hb
  have := Reads.newRow w (l.map (Value.int .i64)).toArray t l.length 1 (by simp)
  simpa [Ints] using this
theorem Strs.newRow2 (w : World) {b : Nat} (t : TypeId) (l : List ByteArray) (hb : b = w.heap.size) : Strs (w.alloc (.cells (l.map Value.string).toArray t)) (w.heap.size + 1) (some ⟨b, 0, none⟩) l := by
  subst hb; exact Strs.newRow w t l

theorem tokCells_at : ∀ (l : List Tok) (j i : Nat) (hj : j < l.length), i < 4 → (l.flatMap tokCells)[j * 4 + i]? = (tokCells l[j])[i]?
  | t :: l, 0, i, _, hi => by
    rw [List.flatMap_cons, List.getElem?_append_left (by simp [tokCells]; omega)]
    simp
  | t :: l, j + 1, i, hj, hi => by
    have ih := tokCells_at l j i (by simpa using hj) hi
    rw [List.flatMap_cons, List.getElem?_append_right (by simp [tokCells]; omega)]
    have e : (j + 1) * 4 + i - (tokCells t).length = j * 4 + i := by simp [tokCells]; omega
    rw [e, ih]; rfl
theorem Toks.at_ {w : World} {B : Nat} {A : Option Addr} {l : List Tok} (h : Toks w B A l) {j : Nat} (hj : j < l.length) :
    ∃ b off, A = some ⟨b, off, none⟩ ∧ b < B ∧ w.cell? ⟨b, off + j * 4, none⟩ = some (.int .i64 l[j].kind) ∧ w.cell? ⟨b, off + j * 4 + 1, none⟩ = some (.string l[j].text) ∧ w.cell? ⟨b, off + j * 4 + 2, none⟩ = some (.int .i64 l[j].n) ∧ w.cell? ⟨b, off + j * 4 + 3, none⟩ = some (.int .i64 l[j].pos) := by
  have hp : 0 < (l.flatMap tokCells).length := by have := h.1; omega
  obtain ⟨b, off, e, hb, hc⟩ := Reads.form h hp
  have key : ∀ i u, i < 4 → (tokCells l[j])[i]? = some u → w.cell? ⟨b, off + j * 4 + i, none⟩ = some u := fun i u hi hu => by
    have := hc (j * 4 + i) u (by rw [tokCells_at l j i hj hi]; exact hu)
    rwa [← Nat.add_assoc] at this
  exact ⟨b, off, e, hb, key 0 _ (by omega) rfl, key 1 _ (by omega) rfl, key 2 _ (by omega) rfl, key 3 _ (by omega) rfl⟩
theorem Toks.below {w w' : World} {B : Nat} {A : Option Addr} {l : List Tok} (h : Toks w B A l) (hb : Below B w w') : Toks w' B A l := Reads.below h hb
theorem Toks.more {w : World} {B B' : Nat} {A : Option Addr} {l : List Tok} (h : Toks w B A l) (hB : B ≤ B') : Toks w B' A l := Reads.more h hB
end Go.Proofs.YtanhkeeifnimgaaDoor
