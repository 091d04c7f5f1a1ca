/- A part of the claim: see its last text. -/
import Derived.Test.YtmjcgcnpeoemdaaGreatDoorUK08
import Derived.Test.YtmjcgcnpeoemdaaGreatDoorUK15
import Derived.Deep.DeepAppendRoom

set_option maxRecDepth 100000
set_option maxHeartbeats 16000000
namespace Go.Proofs.YtmjcgcnpeoemdaaGreatDoor
open Go Go.RowKit Go.Proofs
section
variable {α : Type} {E : RelK α} {k : Nat} {w w' : World} {B : Nat} {A : Option Addr} {l : List α}
def CellsOf (E : RelK α) (k : Nat) (w : World) (B : Nat) (l : List α) (vss : List (List Value)) : Prop := vss.length = l.length ∧ ∀ i (hi : i < l.length) (hj : i < vss.length), vss[i].length = k ∧ E.R w B l[i] vss[i]
theorem CellsOf.keep {vss : List (List Value)} (h : CellsOf E k w B l vss) (hk : ∀ p : Addr, p.block < B → w'.cell? p = w.cell? p) : CellsOf E k w' B l vss :=
 ⟨h.1, fun i hi hj => ⟨(h.2 i hi hj).1, E.keep (h.2 i hi hj).2 hk⟩⟩
theorem CellsOf.nil_ : CellsOf E k w B ([] : List α) [] := ⟨rfl, fun i hi => absurd hi (by simp)⟩
theorem CellsOf.append {l2 : List α} {a b : List (List Value)} (h : CellsOf E k w B l a) (h2 : CellsOf E k w B l2 b) : CellsOf E k w B (l ++ l2) (a ++ b) := by
 refine ⟨by rw [List.length_append, List.length_append, h.1, h2.1], fun i hi hj => ?_⟩
 by_cases hl : i < l.length
 · have hl2 : i < a.length := by rw [h.1]; exact hl
   rw [List.getElem_append_left hl, List.getElem_append_left hl2]
   exact h.2 i hl hl2
 · have ha := h.1
   have h3 := h2.1
   have hi2 : i - l.length < l2.length := by simp at hi; omega
   have e1 : (a ++ b)[i] = b[i - l.length]'(by omega) := by
    rw [List.getElem_append_right (by omega)]; simp only [ha]
   have e2 : (l ++ l2)[i] = l2[i - l.length] := List.getElem_append_right (by omega)
   rw [e1, e2]
   exact h2.2 (i - l.length) hi2 (by omega)
theorem flat_at {k : Nat} : ∀ (vss : List (List Value)), (∀ i (hi : i < vss.length), vss[i].length = k) → ∀ i (hi : i < vss.length) j, j < k → vss.flatten[i * k + j]? = vss[i][j]?
 | v :: vss, h, 0, _, j, hj => by
   have := h 0 (by simp)
   simp only [List.getElem_cons_zero] at this
   rw [Nat.zero_mul, Nat.zero_add, List.flatten_cons, List.getElem?_append_left (by omega)]; rfl
 | v :: vss, h, i + 1, hi, j, hj => by
   have h0 := h 0 (by simp)
   simp only [List.getElem_cons_zero] at h0
   have ih := flat_at vss (fun i hi => by have := h (i + 1) (by simpa using hi); simpa using this) i (by simpa using hi) j hj
   rw [List.flatten_cons, List.getElem?_append_right (by rw [h0, Nat.succ_mul]; omega), h0]
   have : (i + 1) * k + j - k = i * k + j := by rw [Nat.succ_mul]; omega
   rw [this, ih]; rfl
theorem flat_len2 {k : Nat} : ∀ (vss : List (List Value)), (∀ i (hi : i < vss.length), vss[i].length = k) → vss.flatten.length = vss.length * k
 | [], _ => by simp
 | v :: vss, h => by
   have h0 := h 0 (by simp)
   simp only [List.getElem_cons_zero] at h0
   rw [List.flatten_cons, List.length_append, flat_len2 vss (fun i hi => by have := h (i + 1) (by simpa using hi); simpa using this), h0, List.length_cons, Nat.succ_mul]; omega
theorem Rows.cells (h : Rows E k w B A l) (hk : 0 < k) : ∃ vss, CellsOf E k w B l vss ∧ Reads w B k A l.length vss.flatten := by
 have h' : ∀ i : Fin l.length, ∃ vs : List Value, vs.length = k ∧ E.R w B l[i] vs ∧ ∃ b off, A = some ⟨b, off, none⟩ ∧ b < B ∧ ∀ (j : Nat) (u : Value), vs[j]? = some u → w.cell? ⟨b, off + i.1 * k + j, none⟩ = some u := fun i => by
  obtain ⟨b, off, vs, e, hb, hl, hR, hc⟩ := h i.1 i.2
  exact ⟨vs, hl, hR, b, off, e, hb, hc⟩
 refine ⟨List.ofFn fun i => Classical.choose (h' i), ⟨by simp, fun i hi hj => ?_⟩, ?_⟩
 · have := Classical.choose_spec (h' ⟨i, hi⟩)
   rw [List.getElem_ofFn]
   exact ⟨this.1, this.2.1⟩
 · have hlen : ∀ i (hi : i < (List.ofFn fun i => Classical.choose (h' i)).length), (List.ofFn fun i => Classical.choose (h' i))[i].length = k := fun i hi => by
     rw [List.getElem_ofFn]
     exact (Classical.choose_spec (h' ⟨i, by simpa using hi⟩)).1
   refine ⟨by rw [flat_len2 _ hlen, List.length_ofFn], fun hn => ?_⟩
   obtain ⟨b, off, e, hb, hc⟩ := (Classical.choose_spec (h' ⟨0, hn⟩)).2.2
   refine ⟨_, e, hb, fun j u hu => ?_⟩
   have hj : j < (List.ofFn fun i => Classical.choose (h' i)).flatten.length := (List.getElem?_eq_some_iff.1 hu).1
   rw [flat_len2 _ hlen, List.length_ofFn] at hj
   have hdm : j / k < l.length := (Nat.div_lt_iff_lt_mul hk).2 hj
   have hmod := Nat.mod_lt j hk
   have hje : j / k * k + j % k = j := by rw [Nat.mul_comm]; exact Nat.div_add_mod j k
   have hu2 := flat_at _ hlen (j / k) (by simpa using hdm) (j % k) hmod
   rw [hje, hu] at hu2
   rw [List.getElem_ofFn] at hu2
   obtain ⟨b2, off2, e2, _, hc2⟩ := (Classical.choose_spec (h' ⟨j / k, hdm⟩)).2.2
   rw [e] at e2
   injection e2 with e2
   injection e2 with e3 e4
   subst e3 e4
   have := hc2 (j % k) u hu2.symm
   rw [add_none]
   rw [Nat.add_assoc, hje] at this
   exact this
theorem Rows.ofOwn {vss : List (List Value)} {B0 : Nat} {T : TypeId} {v : Value} (ho : w.ownsRow B0 T k v l.length vss.flatten) (hc : CellsOf E k w B l vss) (hB : B ≤ w.heap.size) : ∃ A c, v = .slice A l.length c ∧ l.length ≤ c ∧ Rows E k w w.heap.size A l := by
 rcases ho.2 with ⟨rfl, h0⟩ | ⟨g, cap, cur, rfl, _, hh, hcp, _⟩
 · have : l = [] := List.eq_nil_of_length_eq_zero h0
   subst this
   exact ⟨none, 0, rfl, Nat.le_refl _, Rows.nil_⟩
 · refine ⟨_, _, rfl, hcp, fun i hi => ?_⟩
   have hj : i < vss.length := by rw [hc.1]; exact hi
   obtain ⟨h1, h2⟩ := hc.2 i hi hj
   have hR := Reads.of_own ho
   obtain ⟨ad, e, hb, hcell⟩ := hR.2 (by omega)
   injection e with e
   subst e
   refine ⟨g, 0, vss[i], rfl, hb, h1, E.more h2 hB, fun j u hu => ?_⟩
   have hjk : j < k := by rw [← h1]; exact (List.getElem?_eq_some_iff.1 hu).1
   have hf := flat_at vss (fun i hi => (hc.2 i (by rw [← hc.1]; exact hi) hi).1) i hj j hjk
   have := hcell (i * k + j) u (by rw [hf]; exact hu)
   rw [add_none] at this
   rw [Nat.zero_add]
   rwa [Nat.zero_add] at this
end
theorem evCells_one {w : World} {B : Nat} {l : List EvM} {vss : List (List Value)} (h : CellsOf encEv 22 w B l vss) : ∀ u ∈ vss.flatten, u.oneCell' = true := by
 intro u hu
 obtain ⟨vs, hvs, hu⟩ := List.mem_flatten.1 hu
 obtain ⟨i, hi, rfl⟩ := List.getElem_of_mem hvs
 obtain ⟨j, e, _⟩ := (h.2 i (by rw [← h.1]; exact hi) hi).2
 rw [e] at hu
 simp at hu
 rcases hu with rfl | rfl | rfl | rfl | rfl | rfl | rfl | rfl | rfl | rfl | rfl | rfl | rfl | rfl | rfl | rfl | rfl | rfl | rfl | rfl | rfl | rfl <;> rfl
def IT (w : World) (B : Nat) (A : Option Addr) (l : List Int) : Prop := l = [] ∨ ∃ g cur, A = some ⟨g, 0, none⟩ ∧ g < B ∧ Blk w g 3 cur ∧ ∀ (j : Nat) (u : Value), (l.map (Value.int .i64))[j]? = some u → cur[j]? = some u
def KI (B : Nat) (w w' : World) : Prop := ∀ g cur, g < B → Blk w g 3 cur → Blk w' g 3 cur
theorem KI.of {B : Nat} {w w' : World} (h : KT 3 w w') : KI B w w' := fun g cur _ hb => h.2 g cur hb
theorem KI.grown {B : Nat} {w w' : World} {v : Value} {l : List Int} (h : OwnI B w v l) (hg : w.grownBy w' v.ownBlock) : KI B w w' := fun g _ hlt hb => hb.grown hg fun e => by have := (World.ownsRow.lt h g e.symm).1; omega
theorem IT.keep {w w' : World} {B : Nat} {A : Option Addr} {l : List Int} (h : IT w B A l) (hk : KI B w w') : IT w' B A l := by
 rcases h with h | ⟨g, cur, e, hl, hb, hc⟩
 · exact .inl h
 · exact .inr ⟨g, cur, e, hl, hk _ _ hl hb, hc⟩
theorem IT.more {w : World} {B B' : Nat} {A : Option Addr} {l : List Int} (h : IT w B A l) (hB : B ≤ B') : IT w B' A l := by
 rcases h with h | ⟨g, cur, e, hl, hb, hc⟩
 · exact .inl h
 · exact .inr ⟨g, cur, e, by omega, hb, hc⟩
theorem IT.ints {w : World} {B : Nat} {A : Option Addr} {l : List Int} (h : IT w B A l) : Ints w w.heap.size A l := by
 rcases h with rfl | ⟨g, cur, rfl, _, hb, hc⟩
 · exact ⟨rfl, fun h => absurd h (by simp)⟩
 · refine ⟨by simp, fun _ => ⟨_, rfl, hb.lt, fun j u hu => ?_⟩⟩
   rw [add_none, Nat.zero_add, hb.cell]
   exact hc j u hu
theorem OwnI.it {B : Nat} {w : World} {v : Value} {l : List Int} (h : OwnI B w v l) : ∃ A c, v = .slice A l.length c ∧ l.length ≤ c ∧ c ≤ 9223372036854775807 ∧ IT w w.heap.size A l := by
 rcases h.2 with ⟨rfl, h0⟩ | ⟨g, cap, cur, rfl, _, hh, hc, hm, _, ht⟩
 · have : l = [] := List.eq_nil_of_length_eq_zero h0
   subst this
   exact ⟨none, 0, rfl, Nat.le_refl _, by decide, .inl rfl⟩
 · refine ⟨_, cap, rfl, hc, hm, .inr ⟨g, cur, rfl, Blk.lt hh, hh, fun j u hu => ?_⟩⟩
   rw [← ht, List.getElem?_take] at hu
   split at hu
   · simpa using hu
   · cases hu
def EvT (w : World) (B : Nat) (x : EvM) (vs : List Value) : Prop := ∃ j : EvJ, vs = [.int .i64 x.kind, .int .i64 x.mach, .int .i64 j.v2, .int .i64 j.v3, .int .i64 x.group, .int .i64 j.v5, .string j.v6, .int .i64 j.v7, .int .i64 j.v8, .int .i64 j.v9, .bool j.v10, .int .i64 j.v11, .slice j.A x.old.length j.c, .slice j.A13 j.n13 j.c13, .slice j.A14 j.n14 j.c14, .int .i64 x.hitem, .int .i64 j.v16, .int .i64 x.hstate, .int .i64 j.v18, .int .i64 j.v19, .bool x.gone, .int .i64 x.outcome] ∧ x.old.length ≤ j.c ∧ j.c ≤ 9223372036854775807 ∧ IT w B j.A x.old
theorem EvT.keep {w w' : World} {B : Nat} {x : EvM} {vs : List Value} (h : EvT w B x vs) (hk : KI B w w') : EvT w' B x vs := by
 obtain ⟨j, h1, h2, h3, h4⟩ := h
 exact ⟨j, h1, h2, h3, h4.keep hk⟩
theorem EvT.more {w : World} {B B' : Nat} {x : EvM} {vs : List Value} (h : EvT w B x vs) (hB : B ≤ B') : EvT w B' x vs := by
 obtain ⟨j, h1, h2, h3, h4⟩ := h
 exact ⟨j, h1, h2, h3, h4.more hB⟩
theorem EvT.one {w : World} {B : Nat} {x : EvM} {vs : List Value} (h : EvT w B x vs) : ∀ u ∈ vs, u.oneCell' = true := by
 obtain ⟨j, rfl, _⟩ := h
 intro u hu
 simp at hu
 rcases hu with rfl | rfl | rfl | rfl | rfl | rfl | rfl | rfl | rfl | rfl | rfl | rfl | rfl | rfl | rfl | rfl | rfl | rfl | rfl | rfl | rfl | rfl <;> rfl
theorem EvT.len {w : World} {B : Nat} {x : EvM} {vs : List Value} (h : EvT w B x vs) : vs.length = 22 := by
 obtain ⟨j, rfl, _⟩ := h; rfl
theorem EvT.enc {w : World} {B : Nat} {x : EvM} {vs : List Value} (h : EvT w B x vs) : encEv.R w w.heap.size x vs := by
 obtain ⟨j, rfl, h2, h3, h4⟩ := h
 exact ⟨j, rfl, h2, h3, h4.ints⟩
def CellsT (w : World) (B : Nat) (l : List EvM) (vss : List (List Value)) : Prop := vss.length = l.length ∧ ∀ i (hi : i < l.length) (hj : i < vss.length), EvT w B l[i] vss[i]
theorem CellsT.keep {w w' : World} {B : Nat} {l : List EvM} {vss : List (List Value)} (h : CellsT w B l vss) (hk : KI B w w') : CellsT w' B l vss := ⟨h.1, fun i hi hj => (h.2 i hi hj).keep hk⟩
theorem CellsT.more {w : World} {B B' : Nat} {l : List EvM} {vss : List (List Value)} (h : CellsT w B l vss) (hB : B ≤ B') : CellsT w B' l vss := ⟨h.1, fun i hi hj => (h.2 i hi hj).more hB⟩
theorem CellsT.snoc {w : World} {B : Nat} {l : List EvM} {vss : List (List Value)} (h : CellsT w B l vss) {y : EvM} {vs : List Value} (hy : EvT w B y vs) : CellsT w B (l ++ [y]) (vss ++ [vs]) := by
 refine ⟨by simp [h.1], fun i hi hj => ?_⟩
 by_cases hl : i < l.length
 · have hl2 : i < vss.length := by rw [h.1]; exact hl
   rw [List.getElem_append_left hl, List.getElem_append_left hl2]
   exact h.2 i hl hl2
 · obtain rfl : i = l.length := by simp at hi; omega
   have e : vss.length = l.length := h.1
   rw [List.getElem_append_right (Nat.le_refl _), List.getElem_append_right (by omega)]
   simpa [e] using hy
theorem CellsT.cells {w : World} {B : Nat} {l : List EvM} {vss : List (List Value)} (h : CellsT w B l vss) : CellsOf encEv 22 w w.heap.size l vss := ⟨h.1, fun i hi hj => ⟨(h.2 i hi hj).len, (h.2 i hi hj).enc⟩⟩
def OwnE (B0 B : Nat) (w : World) (v : Value) (l : List EvM) : Prop := ∃ vss, w.ownsRow B0 50 22 v l.length vss.flatten ∧ CellsT w B l vss
theorem OwnE.nil_ (B0 B : Nat) (w : World) : OwnE B0 B w (.slice none 0 0) [] := ⟨[], World.ownsRow_nil _ _ _ _, rfl, fun i hi => absurd hi (by simp)⟩
theorem OwnE.lt {B0 B : Nat} {w : World} {v : Value} {l : List EvM} (h : OwnE B0 B w v l) : ∀ k, v.ownBlock = some k → B0 ≤ k ∧ k < w.heap.size := by
 obtain ⟨vss, h, _⟩ := h; exact World.ownsRow.lt h
theorem OwnE.keep {B0 B : Nat} {w w' : World} {v : Value} {l : List EvM} (h : OwnE B0 B w v l) (h1 : KT 50 w w') (h2 : KI B w w') : OwnE B0 B w' v l := by
 obtain ⟨vss, ⟨h0, h⟩, hc⟩ := h
 refine ⟨vss, ⟨h0, ?_⟩, hc.keep h2⟩
 rcases h with h0 | ⟨g, cap, cur, e, hb, hh, h3⟩
 · exact .inl h0
 · exact .inr ⟨g, cap, cur, e, hb, h1.2 _ _ hh, h3⟩
theorem OwnE.below {B0 B : Nat} {w w' : World} {v : Value} {l : List EvM} (h : OwnE B0 B w v l) (hb : Below w.heap.size w w') : OwnE B0 B w' v l := h.keep (KT.below hb) (KI.of (KT.below hb))
theorem OwnE.more {B0 B B' : Nat} {w : World} {v : Value} {l : List EvM} (h : OwnE B0 B w v l) (hB : B ≤ B') : OwnE B0 B' w v l := by
 obtain ⟨vss, h, hc⟩ := h; exact ⟨vss, h, hc.more hB⟩
theorem OwnE.ne {B0 B g : Nat} {w : World} {v : Value} {l : List EvM} {T : TypeId} {cs : Array Value} (h : OwnE B0 B w v l) (hb : Blk w g T cs) (hne : T ≠ 50) : v.ownBlock ≠ some g := by
 obtain ⟨vss, h, _⟩ := h
 rintro e
 rcases h.2 with ⟨rfl, _⟩ | ⟨g2, cap, cur, rfl, _, hh, _⟩
 · cases e
 · obtain rfl : g2 = g := Option.some.inj e
   rw [Blk] at hb
   have := hb.symm.trans hh
   simp at this
   exact hne this.2
theorem OwnE.rows {B0 B : Nat} {w : World} {v : Value} {l : List EvM} (h : OwnE B0 B w v l) : ∃ A c, v = .slice A l.length c ∧ l.length ≤ c ∧ c ≤ 9223372036854775807 ∧ Rows encEv 22 w w.heap.size A l := by
 obtain ⟨vss, h, hc⟩ := h
 obtain ⟨A, c, e, h1, h2⟩ := Rows.ofOwn h hc.cells (Nat.le_refl _)
 refine ⟨A, c, e, h1, ?_, h2⟩
 rcases h.2 with ⟨e2, _⟩ | ⟨g, cap, cur, e2, _, _, _, hm, _⟩
 · rw [e] at e2; injection e2 with _ _ e3; omega
 · rw [e] at e2; injection e2 with _ _ e3; subst e3; exact hm
theorem infoEv3 : (Tryz.prog.info? 50).map (fun i => (i.zero, i.size, i.bytes)) = some (some (.agg #[.int .i64 0, .int .i64 0, .int .i64 0, .int .i64 0, .int .i64 0, .int .i64 0, .string ⟨#[]⟩, .int .i64 0, .int .i64 0, .int .i64 0, .bool false, .int .i64 0, .slice none 0 0, .slice none 0 0, .slice none 0 0, .int .i64 0, .int .i64 0, .int .i64 0, .int .i64 0, .int .i64 0, .bool false, .int .i64 0]), 22, 232) := by kernel_rfl
section
variable {P : Program} (w : World)
end
end Go.Proofs.YtmjcgcnpeoemdaaGreatDoor
