/- A part of the claim: see its last text. -/
import Derived.Test.YtcfogipaadhbeaaGreatDoorUK03
import Derived.Test.YtcfogipaadhbeaaGreatDoorUOpensGZ

set_option maxRecDepth 100000
set_option maxHeartbeats 16000000
namespace Go.Proofs.YtcfogipaadhbeaaGreatDoor
open Go Go.Proofs Go.RowKit Go.Joins Go.ChangeShapes Go.WideShapes Go.Deep
section
variable {H : Type} {enc : TypeId × Value → H} {P : Program} {w : World}
structure DeclTypes (P : Program) (f0 f1 f2 f3 f4 f5 : Field) : Prop where
 k0 : P.underlying f0.type = some (.int .i64)
 k1 : P.underlying f1.type = some .string
 k2 : ∃ e, P.underlying f2.type = some (.slice e) ∧ P.underlying e = some .string ∧ P.cellsOf e = 1
 k3 : ∃ e, P.underlying f3.type = some (.slice e) ∧ P.underlying e = some (.int .i64) ∧ P.cellsOf e = 1
 k4 : P.underlying f4.type = some (.int .i64)
 k5 : P.underlying f5.type = some .bool
theorem decl_fields {f0 f1 f2 f3 f4 f5 : Field} (hT : DeclTypes P f0 f1 f2 f3 f4 f5) {n : Nat} {held : Bool} {v0 v1 v2 v3 v4 v5 : Value} {y0 y1 y2 y3 y4 y5 : DataW H × List MemPlace}
    (h0 : DataW.trod enc P w 0 (fun _ => true) held n f0.type [v0] = some y0) (h1 : DataW.trod enc P w 0 (fun _ => true) held n f1.type [v1] = some y1) (h2 : DataW.trod enc P w 0 (fun _ => true) held n f2.type [v2] = some y2)
    (h3 : DataW.trod enc P w 0 (fun _ => true) held n f3.type [v3] = some y3) (h4 : DataW.trod enc P w 0 (fun _ => true) held n f4.type [v4] = some y4) (h5 : DataW.trod enc P w 0 (fun _ => true) held n f5.type [v5] = some y5) :
    ∃ (d : Decl) (ra : Option Addr) (rc : Nat) (na : Option Addr) (nc : Nat), [v0, v1, v2, v3, v4, v5] = declCells d ra rc na nc ∧ (d.refs.length ≤ rc ∧ d.nums.length ≤ nc) ∧ Strs w w.heap.size ra d.refs ∧ Ints w w.heap.size na d.nums ∧ Fine d ∧
     (∀ z ∈ d.nums, (Lit.int .i64 z).wf = true) ∧ (Lit.int .i64 d.kind).wf = true ∧ (Lit.int .i64 d.by_).wf = true := by
 obtain ⟨k, e0, _, w0⟩ := DataW.trod_int hT.k0 h0
 obtain ⟨nm, e1, _, w1⟩ := DataW.trod_string hT.k1 h1
 obtain ⟨t2, a2, b2, c2⟩ := hT.k2
 obtain ⟨t3, a3, b3, c3⟩ := hT.k3
 obtain ⟨ra, rc, refs, rfl, l2, m2, s2, z2⟩ := strs_open a2 b2 c2 h2
 obtain ⟨na, nc, nums, rfl, l3, m3, s3, z3⟩ := ints_open a3 b3 c3 h3
 obtain ⟨bY, e4, _, w4⟩ := DataW.trod_int hT.k4 h4
 obtain ⟨al, e5, _⟩ := DataW.trod_bool hT.k5 h5
 obtain rfl : v0 = _ := by simpa using e0
 obtain rfl : v1 = _ := by simpa using e1
 obtain rfl : v4 = _ := by simpa using e4
 obtain rfl : v5 = _ := by simpa using e5
 have hx : maxLen = 9223372036854775807 := by decide
 rw [hx] at w1 m2 m3
 refine ⟨⟨k, nm, refs, nums, bY, al⟩, ra, rc, na, nc, rfl, ⟨l2, l3⟩, s2, s3, ⟨w1, fun s hs => ?_, Nat.le_trans l2 m2, Nat.le_trans l3 m3⟩, z3, w0, w4⟩
 have := z2 s hs
 rwa [hx] at this
def FineI (d : Decl) : Prop := (∀ z ∈ d.nums, (Lit.int .i64 z).wf = true) ∧ (Lit.int .i64 d.kind).wf = true ∧ (Lit.int .i64 d.by_).wf = true
theorem decls_open {t e : TypeId} {f0 f1 f2 f3 f4 f5 : Field} (ht : P.underlying t = some (.slice e)) (he : P.underlying e = some (.struct #[f0, f1, f2, f3, f4, f5])) (hone : oneCellFields P #[f0, f1, f2, f3, f4, f5] = true) (hC : P.cellsOf e = 6) (hT : DeclTypes P f0 f1 f2 f3 f4 f5)
    {r : Reach} {b0 : Nat} {held : Bool} {v : Value} {d : DataW H} {p : List MemPlace} (hv : Value.okWide P w r b0 t v) (h : DataW.Trod enc P w 0 (fun _ => true) held t v d p) :
    ∃ (A : Option Addr) (c : Nat) (l : List Decl), v = .slice A l.length c ∧ l.length ≤ c ∧ c ≤ maxLen ∧ Decls w w.heap.size A l ∧ ∀ x ∈ l, FineI x := by
 obtain ⟨fuel, hf⟩ := h
 have hcs : v.cells.toList = [v] := by
  obtain ⟨_, _, _, rfl⟩ := okWide_slice ht hv
  rfl
 rw [hcs] at hf
 rcases open_slice_fields ht he hone hC hf with ⟨hv, _⟩ | ⟨a, len, cap, m, D, Pl, hv, _, hl, hm, hmm, _, hi⟩
 · obtain rfl : v = _ := by simpa using hv
   exact ⟨none, 0, [], rfl, Nat.le_refl _, Nat.zero_le _, fun i hi => absurd hi (by simp), by simp⟩
 · obtain rfl : v = _ := by simpa using hv
   have hmm : m = cap := by simpa using hmm
   subst hmm
   have each : ∀ i, i < len → ∃ x : Decl, (∃ (ra : Option Addr) (rc : Nat) (na : Option Addr) (nc : Nat), (∀ (j : Nat) u, (declCells x ra rc na nc)[j]? = some u → w.cell? ((a.add (i * 6)).add j) = some u) ∧ (x.refs.length ≤ rc ∧ x.nums.length ≤ nc) ∧ Strs w w.heap.size ra x.refs ∧ Ints w w.heap.size na x.nums ∧ Fine x) ∧ FineI x := by
    intro i hil
    obtain ⟨ys, n, _, _, _, hg⟩ := hi i (by omega)
    obtain ⟨v0, y0, g0, _, t0⟩ := hg 0 f0 rfl
    obtain ⟨v1, y1, g1, _, t1⟩ := hg 1 f1 rfl
    obtain ⟨v2, y2, g2, _, t2⟩ := hg 2 f2 rfl
    obtain ⟨v3, y3, g3, _, t3⟩ := hg 3 f3 rfl
    obtain ⟨v4, y4, g4, _, t4⟩ := hg 4 f4 rfl
    obtain ⟨v5, y5, g5, _, t5⟩ := hg 5 f5 rfl
    obtain ⟨x, ra, rc, na, nc, hcl, h1, h2, h3, h4, h5⟩ := decl_fields hT t0 t1 t2 t3 t4 t5
    refine ⟨x, ⟨ra, rc, na, nc, fun j u hu => ?_, h1, h2, h3, h4⟩, h5⟩
    rw [← hcl] at hu
    have hsz : (#[f0, f1, f2, f3, f4, f5] : Array Field).size = 6 := rfl
    rw [hsz] at g0 g1 g2 g3 g4 g5
    rw [Go.Deep.add_add]
    match j, hu with
    | 0, hu => obtain rfl : _ = u := Option.some.inj hu; exact g0
    | 1, hu => obtain rfl : _ = u := Option.some.inj hu; exact g1
    | 2, hu => obtain rfl : _ = u := Option.some.inj hu; exact g2
    | 3, hu => obtain rfl : _ = u := Option.some.inj hu; exact g3
    | 4, hu => obtain rfl : _ = u := Option.some.inj hu; exact g4
    | 5, hu => obtain rfl : _ = u := Option.some.inj hu; exact g5
   obtain ⟨l, hll, hlx⟩ : ∃ l : List Decl, l.length = len ∧ ∀ i (hi : i < l.length), (∃ (ra : Option Addr) (rc : Nat) (na : Option Addr) (nc : Nat), (∀ (j : Nat) u, (declCells l[i] ra rc na nc)[j]? = some u → w.cell? ((a.add (i * 6)).add j) = some u) ∧ (l[i].refs.length ≤ rc ∧ l[i].nums.length ≤ nc) ∧ Strs w w.heap.size ra l[i].refs ∧ Ints w w.heap.size na l[i].nums ∧ Fine l[i]) ∧ FineI l[i] := by
    refine ⟨(List.range len).attach.map fun i => (each i.1 (List.mem_range.1 i.2)).choose, by simp, fun i hi => ?_⟩
    have hil : i < len := by simpa using hi
    have := (each i hil).choose_spec
    simpa using this
   refine ⟨some a, m, l, by rw [hll], by omega, hm, fun i hi => ?_, fun x hx => ?_⟩
   · obtain ⟨⟨ra, rc, na, nc, hcl, h1, h2, h3, h4⟩, _⟩ := hlx i hi
     have hb := World.block_lt_of_cell? w _ (hcl 0 _ rfl)
     rw [block_of_add, block_of_add] at hb
     exact ⟨a, rfl, hb, ra, rc, na, nc, hcl, h1, h2, h3, h4⟩
   · obtain ⟨i, hi, rfl⟩ := List.getElem_of_mem hx
     exact (hlx i hi).2
end
end Go.Proofs.YtcfogipaadhbeaaGreatDoor
