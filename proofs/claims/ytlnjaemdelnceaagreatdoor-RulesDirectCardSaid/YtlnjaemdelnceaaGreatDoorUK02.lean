/- A part of the claim: see its last text. -/
import Derived.Test.YtlnjaemdelnceaaGreatDoorShelf
import Derived.Test.YtlnjaemdelnceaaGreatDoorUK01
import Derived.Deep.Draws
import Derived.Laws.EntriesVeiled
import Derived.Laws.Rows
import Derived.WalkKit

set_option maxRecDepth 100000
set_option maxHeartbeats 16000000
namespace Go.Proofs.YtlnjaemdelnceaaGreatDoor
open Go Go.RowKit Go.Proofs
def declCells (d : Decl) (ra : Option Addr) (rc : Nat) (na : Option Addr) (nc : Nat) : List Value :=
 [.int .i64 d.kind, .string d.name, .slice ra d.refs.length rc, .slice na d.nums.length nc, .int .i64 d.by_, .bool d.always]
def Fine (d : Decl) : Prop := d.name.size ≤ 9223372036854775807 ∧ (∀ s ∈ d.refs, s.size ≤ 9223372036854775807) ∧ d.refs.length ≤ 9223372036854775807 ∧ d.nums.length ≤ 9223372036854775807
def DeclAt (w : World) (B : Nat) (a : Addr) (d : Decl) : Prop :=
 ∃ ra rc na nc, (∀ (j : Nat) u, (declCells d ra rc na nc)[j]? = some u → w.cell? (a.add j) = some u) ∧ (d.refs.length ≤ rc ∧ d.nums.length ≤ nc) ∧ Strs w B ra d.refs ∧ Ints w B na d.nums ∧ Fine d
def Decls (w : World) (B : Nat) (A : Option Addr) (l : List Decl) : Prop :=
 ∀ (i : Nat) (hi : i < l.length), ∃ ad, A = some ad ∧ ad.block < B ∧ DeclAt w B (ad.add (i * 6)) l[i]
theorem DeclAt.keep {w w' : World} {B : Nat} {a : Addr} {d : Decl} (h : DeclAt w B a d) (ha : a.block < B) (hk : ∀ p : Addr, p.block < B → w'.cell? p = w.cell? p) : DeclAt w' B a d := by
 obtain ⟨ra, rc, na, nc, hc, h1, h2, h3, h4⟩ := h
 exact ⟨ra, rc, na, nc, fun j u hu => (hk _ (by rw [block_of_add]; exact ha)).trans (hc j u hu), h1, h2.keep hk, h3.keep hk, h4⟩
theorem DeclAt.more {w : World} {B B' : Nat} {a : Addr} {d : Decl} (h : DeclAt w B a d) (hB : B ≤ B') : DeclAt w B' a d := by
 obtain ⟨ra, rc, na, nc, hc, h1, h2, h3, h4⟩ := h
 exact ⟨ra, rc, na, nc, hc, h1, h2.more hB, h3.more hB, h4⟩
theorem Decls.keep {w w' : World} {B : Nat} {A : Option Addr} {l : List Decl} (h : Decls w B A l) (hk : ∀ p : Addr, p.block < B → w'.cell? p = w.cell? p) : Decls w' B A l :=
 fun i hi => by
  obtain ⟨ad, rfl, hb, hd⟩ := h i hi
  exact ⟨ad, rfl, hb, hd.keep (by rw [block_of_add]; exact hb) hk⟩
theorem Decls.below {w w' : World} {B : Nat} {A : Option Addr} {l : List Decl} (h : Decls w B A l) (hb : Below B w w') : Decls w' B A l := h.keep fun _ hp => hb.cell hp
theorem Decls.more {w : World} {B B' : Nat} {A : Option Addr} {l : List Decl} (h : Decls w B A l) (hB : B ≤ B') : Decls w B' A l :=
 fun i hi => by
  obtain ⟨ad, rfl, hb, hd⟩ := h i hi
  exact ⟨ad, rfl, Nat.lt_of_lt_of_le hb hB, hd.more hB⟩
end Go.Proofs.YtlnjaemdelnceaaGreatDoor
namespace Go.Proofs.YtlnjaemdelnceaaGreatDoor
open Go Go.RowKit Go.Proofs
theorem Decls.at_ {w : World} {B : Nat} {A : Option Addr} {l : List Decl} (h : Decls w B A l) {i : Nat} (hi : i < l.length) :
    ∃ b off ra rc na nc, A = some ⟨b, off, none⟩ ∧ b < B ∧ w.cell? ⟨b, off + i * 6, none⟩ = some (.int .i64 l[i].kind) ∧ w.cell? ⟨b, off + i * 6 + 1, none⟩ = some (.string l[i].name) ∧ w.cell? ⟨b, off + i * 6 + 2, none⟩ = some (.slice ra l[i].refs.length rc) ∧
     w.cell? ⟨b, off + i * 6 + 3, none⟩ = some (.slice na l[i].nums.length nc) ∧ w.cell? ⟨b, off + i * 6 + 4, none⟩ = some (.int .i64 l[i].by_) ∧ w.cell? ⟨b, off + i * 6 + 5, none⟩ = some (.bool l[i].always) ∧
     l[i].refs.length ≤ rc ∧ Strs w B ra l[i].refs ∧ Ints w B na l[i].nums ∧ Fine l[i] := by
 obtain ⟨ad, rfl, hb, hd⟩ := h 0 (by omega)
 obtain ⟨b, off, spot⟩ := ad
 obtain ⟨_, _, _, _, hc, _⟩ := hd
 have hs : spot = none := by simpa [Addr.add] using World.cell?_spot (hc 0 _ rfl)
 subst hs
 obtain ⟨ad, e, hb2, ra, rc, na, nc, hc2, h1, h2, h3, h4⟩ := h i hi
 obtain rfl : (⟨b, off, none⟩ : Addr) = ad := Option.some.inj e
 have key : ∀ j u, (declCells l[i] ra rc na nc)[j]? = some u → w.cell? ⟨b, off + i * 6 + j, none⟩ = some u := fun j u hu => by
  rw [← add_none, ← add_none]; exact hc2 j u hu
 exact ⟨b, off, ra, rc, na, nc, rfl, hb2, key 0 _ rfl, key 1 _ rfl, key 2 _ rfl, key 3 _ rfl, key 4 _ rfl, key 5 _ rfl, h1.1, h2, h3, h4⟩
theorem OwnS.formD {B : Nat} {w : World} {v : Value} {l : List ByteArray} (h : OwnS B w v l) : ∃ A c, v = .slice A l.length c ∧ l.length ≤ c ∧ Strs w w.heap.size A l := by
 have h2 := h
 rcases h2.2 with ⟨rfl, h0⟩ | ⟨g, cap, cur, rfl, _, _, hc, _⟩
 · have : l = [] := List.eq_nil_of_length_eq_zero h0
   subst this
   exact ⟨none, 0, rfl, Nat.le_refl _, Reads.none_⟩
 · exact ⟨_, _, rfl, hc, Reads.of_own h⟩
abbrev DV := Decl × Value × Value
def cellsD (x : DV) : List Value := [.int .i64 x.1.kind, .string x.1.name, x.2.1, x.2.2, .int .i64 x.1.by_, .bool x.1.always]
theorem cellsD_at : ∀ (l : List DV) (j i : Nat) (hj : j < l.length), i < 6 → (l.flatMap cellsD)[j * 6 + i]? = (cellsD l[j])[i]?
 | t :: l, 0, i, _, hi => by
   rw [List.flatMap_cons, List.getElem?_append_left (by simp [cellsD]; omega)]
   simp
 | t :: l, j + 1, i, hj, hi => by
   have ih := cellsD_at l j i (by simpa using hj) hi
   rw [List.flatMap_cons, List.getElem?_append_right (by simp [cellsD]; omega)]
   have e : (j + 1) * 6 + i - (cellsD t).length = j * 6 + i := by simp [cellsD]; omega
   rw [e, ih]; rfl
theorem cellsD_len (l : List DV) : (l.flatMap cellsD).length = l.length * 6 := by
 induction l with
 | nil => rfl
 | cons x l ih => rw [List.flatMap_cons, List.length_append, ih]; simp [cellsD]; omega
def DRow (w : World) (B : Nat) (A : Option Addr) (L : List DV) : Prop :=
 Reads w B 6 A L.length (L.flatMap cellsD) ∧ ∀ x ∈ L, ∃ ra rc na nc, x.2.1 = .slice ra x.1.refs.length rc ∧ x.2.2 = .slice na x.1.nums.length nc ∧ x.1.refs.length ≤ rc ∧ x.1.nums.length ≤ nc ∧ Strs w B ra x.1.refs ∧ Ints w B na x.1.nums ∧ Fine x.1
theorem DRow.below {w w' : World} {B : Nat} {A : Option Addr} {L : List DV} (h : DRow w B A L) (hb : Below B w w') : DRow w' B A L := by
 refine ⟨h.1.below hb, fun x hx => ?_⟩
 obtain ⟨ra, rc, na, nc, e1, e2, h1, h2, h3, h4, h5⟩ := h.2 x hx
 exact ⟨ra, rc, na, nc, e1, e2, h1, h2, h3.below hb, h4.below hb, h5⟩
theorem DRow.more {w : World} {B B' : Nat} {A : Option Addr} {L : List DV} (h : DRow w B A L) (hB : B ≤ B') : DRow w B' A L := by
 refine ⟨h.1.more hB, fun x hx => ?_⟩
 obtain ⟨ra, rc, na, nc, e1, e2, h1, h2, h3, h4, h5⟩ := h.2 x hx
 exact ⟨ra, rc, na, nc, e1, e2, h1, h2, h3.more hB, h4.more hB, h5⟩
def OutD (B : Nat) (w : World) (v : Value) (L : List DV) : Prop := w.ownsRow B 102 6 v L.length (L.flatMap cellsD) ∧ ∀ x ∈ L, OwnS B w x.2.1 x.1.refs ∧ OwnI B w x.2.2 x.1.nums ∧ x.1.name.size ≤ 16384 ∧ ∀ r ∈ x.1.refs, r.size ≤ 16384
theorem infoD : (Tryz.prog.info? 102).map (fun i => (i.zero, i.size, i.bytes)) = some (some (.agg #[.int .i64 0, .string ⟨#[]⟩, .slice none 0 0, .slice none 0 0, .int .i64 0, .bool false]), 6, 88) := by kernel_rfl
theorem OutD.nil_ (B : Nat) (w : World) : OutD B w (.slice none 0 0) [] := ⟨World.ownsRow_nil _ _ _ _, fun x hx => absurd hx (by simp)⟩
theorem own_types {w : World} {B1 B2 n1 n2 s1 s2 : Nat} {e1 e2 : TypeId} {v1 v2 : Value} {x1 x2 : List Value} (h1 : w.ownsRow B1 e1 s1 v1 n1 x1) (h2 : w.ownsRow B2 e2 s2 v2 n2 x2) (hne : e1 ≠ e2) : v1.ownBlock = none ∨ v1.ownBlock ≠ v2.ownBlock := by
 rcases h1.2 with ⟨rfl, _⟩ | ⟨g, cap, cur, rfl, _, hh, _⟩
 · exact .inl rfl
 · refine .inr fun e => ?_
   rcases h2.2 with ⟨rfl, _⟩ | ⟨g2, cap2, cur2, rfl, _, hh2, _⟩
   · cases e
   · obtain rfl : g = g2 := Option.some.inj e
     rw [hh] at hh2
     simp at hh2
     exact hne hh2.2
theorem own_lowerD {w : World} {B B' n s : Nat} {e : TypeId} {v : Value} {x : List Value} (h : w.ownsRow B' e s v n x) (hB : B ≤ B') : w.ownsRow B e s v n x := by
 refine ⟨h.1, ?_⟩
 rcases h.2 with h0 | ⟨g, cap, cur, e1, e2, h3⟩
 · exact .inl h0
 · exact .inr ⟨g, cap, cur, e1, by omega, h3⟩
theorem OutD.kept {B : Nat} {w w' : World} {v : Value} {L : List DV} (h : OutD B w v L) {row : Option Nat} (hg : w.grownBy w' row) (h1 : v.ownBlock = none ∨ v.ownBlock ≠ row) (h2 : ∀ x ∈ L, (x.2.1.ownBlock = none ∨ x.2.1.ownBlock ≠ row) ∧ (x.2.2.ownBlock = none ∨ x.2.2.ownBlock ≠ row)) : OutD B w' v L :=
 ⟨World.ownsRow.kept h.1 hg h1, fun x hx => ⟨(h.2 x hx).1.kept hg (h2 x hx).1, (h.2 x hx).2.1.kept hg (h2 x hx).2, (h.2 x hx).2.2⟩⟩
theorem own_but {B g n s : Nat} {w : World} {e : TypeId} {v : Value} {x : List Value} (h : w.ownsRow B e s v n x) (hg : g < B) : v.ownBlock = none ∨ v.ownBlock ≠ some g := by
 cases hv : v.ownBlock with
 | none => exact .inl rfl
 | some k =>
   refine .inr fun e => ?_
   have := World.ownsRow.lt h _ hv
   have e2 := Option.some.inj e
   omega
theorem OutD.but {B g : Nat} {w w' : World} {v : Value} {L : List DV} (h : OutD B w v L) (hb : But g w.heap.size w w') (hg : g < B) : OutD B w' v L :=
 h.kept hb.grown (own_but h.1 hg) fun x hx => ⟨own_but (h.2 x hx).1 hg, own_but (h.2 x hx).2.1 hg⟩
theorem OutD.below {B : Nat} {w w' : World} {v : Value} {L : List DV} (h : OutD B w v L) (hb : Below w.heap.size w w') : OutD B w' v L := by
 refine h.kept (grown_of_below hb none) ?_ fun x _ => ⟨?_, ?_⟩
 · cases hv : v.ownBlock
   · exact .inl rfl
   · exact .inr (by simp)
 · cases hv : x.2.1.ownBlock
   · exact .inl rfl
   · exact .inr (by simp)
 · cases hv : x.2.2.ownBlock
   · exact .inl rfl
   · exact .inr (by simp)
theorem OutD.form {B : Nat} {w : World} {v : Value} {L : List DV} (h : OutD B w v L) : ∃ A c, v = .slice A L.length c ∧ L.length ≤ c := by
 rcases h.1.2 with ⟨rfl, h0⟩ | ⟨g, cap, cur, rfl, _, _, hc, _⟩
 · have : L = [] := List.eq_nil_of_length_eq_zero h0
   subst this
   exact ⟨none, 0, rfl, Nat.le_refl _⟩
 · exact ⟨_, _, rfl, hc⟩
theorem own_max {w : World} {B n s : Nat} {e : TypeId} {v : Value} {x : List Value} (h : w.ownsRow B e s v n x) : n ≤ 9223372036854775807 := by
 rcases h.2 with ⟨rfl, h0⟩ | ⟨g, cap, cur, rfl, _, _, hc, hm, _⟩
 · omega
 · have : maxLen = 9223372036854775807 := by decide
   omega
theorem OutD.row {B : Nat} {w : World} {A : Option Addr} {c : Nat} {L : List DV} (h : OutD B w (.slice A L.length c) L) : DRow w w.heap.size A L := by
 refine ⟨Reads.of_own h.1, fun x hx => ?_⟩
 obtain ⟨h1, h2, h3, h4⟩ := h.2 x hx
 obtain ⟨ra, rc, e1, k1, k2⟩ := h1.formD
 obtain ⟨na, nc, e2, k3, k4⟩ := h2.form
 exact ⟨ra, rc, na, nc, e1, e2, k1, k3, k2, k4, by omega, fun s hs => by have := h4 s hs; omega, own_max h1, own_max h2⟩
theorem append_decls {ops : Array Oper} {rest : List Oper} {o : Oper} {a : Act} {Q : Exit → Act → World → Prop} {w : World} (hgd : o.guard = none) (s x : Operand)
    (ho : o.op = .call { callee := .builtin .append, args := #[s, x], argTypes := #[97, 97] })
    (base : Nat) (v : Value) (l : List DV) (hs : a.eval s = v) (hown : w.ownsRow base 102 6 v l.length (l.flatMap cellsD))
    (B : Nat) (A : Option Addr) (c : Nat) (m : List DV) (hx : a.eval x = .slice A m.length c) (hr : Reads w B 6 A m.length (m.flatMap cellsD)) (h1 : ∀ y ∈ m, y.2.1.oneCell' = true ∧ y.2.2.oneCell' = true)
    (hlen : l.length + m.length ≤ 1099511627776) (hbase : base ≤ w.heap.size)
    (h : ∀ v' w', w'.ownsRow base 102 6 v' (l ++ m).length ((l ++ m).flatMap cellsD) → w.grownBy w' v.ownBlock → (v'.ownBlock = v.ownBlock ∨ v'.ownBlock = some w.heap.size) → wpList Tryz.prog ops Q rest (a.put o.dst v') w') : wpList Tryz.prog ops Q (o :: rest) a w := by
 obtain ⟨i0, hi, hz0, hz1, hz2⟩ := info_parts infoD
 refine wpList_plain hgd fun _ hK => wp_append_any w s x 97 ho base 102 i0 _ 6 88 Tryz.underlying97 hi hz0 hz1 hz2 rfl (by omega) v l.length (l.flatMap cellsD) hs hown B A m.length c (m.flatMap cellsD) hx hr ?_ ?_ ?_ hbase
  fun v' w' h2 h3 h4 => hK _ _ (h v' w' ?_ h3 h4)
 · intro u hu
   obtain ⟨y, hy, hu⟩ := List.mem_flatMap.1 hu
   have := h1 y hy
   simp [cellsD] at hu
   rcases hu with rfl | rfl | rfl | rfl | rfl | rfl
   · rfl
   · rfl
   · exact this.1
   · exact this.2
   · rfl
   · rfl
 · unfold maxLen; omega
 · omega
 · rw [List.flatMap_append, List.length_append]; exact h2
theorem step_append_decls {ops : Array Oper} {o : Oper} {a : Act} {K : Act → World → Prop} {Q : Exit → Act → World → Prop} {E : Prop} {w : World} (hgd : o.guard = none) (s x : Operand)
    (ho : o.op = .call { callee := .builtin .append, args := #[s, x], argTypes := #[97, 97] })
    (base : Nat) (v : Value) (l : List DV) (hs : a.eval s = v) (hown : w.ownsRow base 102 6 v l.length (l.flatMap cellsD))
    (B : Nat) (A : Option Addr) (c : Nat) (m : List DV) (hx : a.eval x = .slice A m.length c) (hr : Reads w B 6 A m.length (m.flatMap cellsD)) (h1 : ∀ y ∈ m, y.2.1.oneCell' = true ∧ y.2.2.oneCell' = true)
    (hlen : l.length + m.length ≤ 1099511627776) (hbase : base ≤ w.heap.size)
    (h : ∀ v' w', w'.ownsRow base 102 6 v' (l ++ m).length ((l ++ m).flatMap cellsD) → w.grownBy w' v.ownBlock → (v'.ownBlock = v.ownBlock ∨ v'.ownBlock = some w.heap.size) → K (a.put o.dst v') w') :
    if Region.wanted o (yielded ops a.tmps) = true then Oper.wp Tryz.prog o a w K Q else E := by
 have hw : Region.wanted o (yielded ops a.tmps) = true := by simp [Region.wanted, hgd]
 rw [if_pos hw]
 obtain ⟨i0, hi, hz0, hz1, hz2⟩ := info_parts infoD
 refine wp_append_any w s x 97 ho base 102 i0 _ 6 88 Tryz.underlying97 hi hz0 hz1 hz2 rfl (by omega) v l.length (l.flatMap cellsD) hs hown B A m.length c (m.flatMap cellsD) hx hr ?_ ?_ ?_ hbase
  fun v' w' h2 h3 h4 => h v' w' ?_ h3 h4
 · intro u hu
   obtain ⟨y, hy, hu⟩ := List.mem_flatMap.1 hu
   have := h1 y hy
   simp [cellsD] at hu
   rcases hu with rfl | rfl | rfl | rfl | rfl | rfl
   · rfl
   · rfl
   · exact this.1
   · exact this.2
   · rfl
   · rfl
 · unfold maxLen; omega
 · omega
 · rw [List.flatMap_append, List.length_append]; exact h2
theorem OutD.pushed {B0 B' bp : Nat} {x x3 : World} {v v3 : Value} {L : List DV} {d : Decl} {ra na : Option Addr} {rc nc : Nat} {o : Obj} (h : OutD B0 x v L) (hO : OwnS B' x (.slice ra d.refs.length rc) d.refs) (hI : OwnI B' x (.slice na d.nums.length nc) d.nums) (hB : B0 ≤ B')
    (hz : d.name.size ≤ 16384 ∧ ∀ r ∈ d.refs, r.size ≤ 16384)
    (h3 : x3.ownsRow B0 102 6 v3 (L ++ [((d, .slice ra d.refs.length rc, .slice na d.nums.length nc) : DV)]).length ((L ++ [((d, .slice ra d.refs.length rc, .slice na d.nums.length nc) : DV)]).flatMap cellsD)) (hg : (x.alloc o).grownBy x3 v.ownBlock) (_ : bp < B0) :
    OutD B0 x3 v3 (L ++ [(d, .slice ra d.refs.length rc, .slice na d.nums.length nc)]) := by
 have hv := World.ownsRow.alloc h.1 o
 refine ⟨h3, fun y hy => ?_⟩
 rcases List.mem_append.1 hy with hy | hy
 · obtain ⟨k1, k2, k3⟩ := h.2 y hy
   have a1 := OwnS.alloc k1 o
   have a2 := OwnI.alloc k2 o
   exact ⟨a1.kept hg (own_types a1 hv (by decide)), a2.kept hg (own_types a2 hv (by decide)), k3⟩
 · rw [List.mem_singleton.1 hy]
   have a1 := OwnS.alloc (show OwnS B0 x _ _ from own_lowerD hO hB) o
   have a2 := OwnI.alloc (show OwnI B0 x _ _ from own_lowerD hI hB) o
   exact ⟨a1.kept hg (own_types a1 hv (by decide)), a2.kept hg (own_types a2 hv (by decide)), hz⟩
theorem newD (x : World) (d : Decl) (ra na : Option Addr) (rc nc : Nat) {b : Nat} (hb : b = x.heap.size) : Reads (x.alloc (.cells #[.int .i64 d.kind, .string d.name, .slice ra d.refs.length rc, .slice na d.nums.length nc, .int .i64 d.by_, .bool d.always] 102)) (x.heap.size + 1) 6 (some ⟨b, 0, none⟩) 1 ([((d, .slice ra d.refs.length rc, .slice na d.nums.length nc) : DV)].flatMap cellsD) := by
 subst hb
 exact Reads.newRow x #[.int .i64 d.kind, .string d.name, .slice ra d.refs.length rc, .slice na d.nums.length nc, .int .i64 d.by_, .bool d.always] 102 1 6 rfl
def KeepX (bo : Nat) (w w' : World) : Prop := ∀ (b : Nat) (t : TypeId) (cs : Array Value), t ≠ 102 → b ≠ bo → Blk w b t cs → Blk w' b t cs
def AddR (bo B : Nat) (w : World) (L : List DV) (e : Ending) (w' : World) : Prop := ∃ v, e = .returned (.tuple #[]) ∧ OutD B w' v L ∧ Blk w' bo 97 #[v] ∧ But bo B w w' ∧ KeepX bo w w'
theorem add19 (bo B : Nat) (k : Int) (nm : ByteArray) (ra na : Option Addr) (rc nc : Nat) (refs : List ByteArray) (nums : List Int) (v : Value) (L : List DV) (W : World) (hO : OutD B W v L) (hb : Blk W bo 97 #[v]) (hlt : bo < B) (hBW : B ≤ W.heap.size)
    (hr : OwnS B W (.slice ra refs.length rc) refs) (hn : OwnI B W (.slice na nums.length nc) nums) (hz : nm.size ≤ 16384 ∧ ∀ r ∈ refs, r.size ≤ 16384) (hl : L.length ≤ 1000) :
    Calls Tryz.prog 101 #[.int .i64 k, .string nm, .slice ra refs.length rc, .slice na nums.length nc, .pointer (some ⟨bo, 0, none⟩)] W (AddR bo B W (L ++ [(⟨k, nm, refs, nums, 0, false⟩, .slice ra refs.length rc, .slice na nums.length nc)])) := by
 have HO := hide hO; have HB := hide hb; have HR := hide hr; have HN := hide hn; have HZ := hide hz; have HL := hide hl
 have HLT := hide hlt; have HBW := hide hBW
 have c0 : W.cell? ⟨bo, 0, none⟩ = some v := hb.cell 0
 have ml := hb.lt
 clear hO hb hr hn hz hl hBW hlt
 go_enter Tryz.func101, Tryz.ntmps101
 go_wp2_with (at_builtin
              refine append_decls rfl _ _ rfl B v L rfl (World.ownsRow.alloc HO.out.1 _) _ _ 1 [(⟨k, nm, refs, nums, 0, false⟩, .slice ra refs.length rc, .slice na nums.length nc)] rfl (newD W ⟨k, nm, refs, nums, 0, false⟩ ra na rc nc rfl) (by intro y hy; rw [List.mem_singleton.1 hy]; exact ⟨rfl, rfl⟩) (by have := HL.out; simp; omega) (by have := HBW.out; simp; omega) ?_
              intro v3 x3 hO3 hg3 _
              have ho3 := OutD.pushed (bp := bo) HO.out HR.out HN.out (Nat.le_refl _) HZ.out hO3 hg3 HLT.out
              have hb3 := (HB.out.alloc (.cells #[.int .i64 k, .string nm, .slice ra refs.length rc, .slice na nums.length nc, .int .i64 0, .bool false] 102)).grown hg3 (fun e => by have := (World.ownsRow.lt HO.out.1 _ e.symm).1; have := HLT.out; omega)
              have HO3 := hide ho3
              have HB3 := hide hb3
              have HBU := hide ((But.ofBelow (g := bo) (((Below.refl B W).alloc HBW.out (.cells #[.int .i64 k, .string nm, .slice ra refs.length rc, .slice na nums.length nc, .int .i64 0, .bool false] 102)))).trans (But.ofGrown hg3 (by have := HBW.out; simp; omega) fun k hk => (World.ownsRow.lt HO.out.1 _ hk).1))
              have HKX := hide (show KeepX bo W _ from fun b t cs ht _ hB => (hB.alloc (.cells #[.int .i64 k, .string nm, .slice ra refs.length rc, .slice na nums.length nc, .int .i64 0, .bool false] 102)).grown hg3 fun e => by
               rcases HO.out.1.2 with ⟨e0, _⟩ | ⟨g2, cap, cur, e0, _, hh, _⟩
               · rw [e0] at e; cases e
               · rw [e0] at e
                 obtain rfl : b = g2 := Option.some.inj e
                 have := hB.symm.trans hh
                 simp at this
                 exact ht this.2)
              have x0 := hb3.cell 0
              have xf := hb3.frozen 0
              have xl := hb3.lt
              simp at x0
              obtain ⟨A3, c3, hv3, _⟩ := ho3.form
              obtain ⟨n3, hn3⟩ : ∃ n3, n3 = (L ++ [((⟨k, nm, refs, nums, 0, false⟩, .slice ra refs.length rc, .slice na nums.length nc) : DV)]).length := ⟨_, rfl⟩
              rw [← hn3] at hv3
              clear hO3 hg3 ho3 hb3 hn3
              subst hv3)
 go_end0
 exact ⟨_, rfl, HO3.out.but (But.set_ _ _ _) HLT.out, HB3.out.set_ 0 _, HBU.out.trans (But.set_ _ _ _), fun b t cs ht hb hB => (HKX.out b t cs ht hb hB).far (by simpa using hb) _⟩
end Go.Proofs.YtlnjaemdelnceaaGreatDoor

namespace Go.Proofs.YtlnjaemdelnceaaGreatDoor
open Go
structure RackM where
 name : ByteArray
 site : Int
 feed : Int
structure MachM where
 name : ByteArray
 rack : Int
 cap : Int
structure LinkM where
 a : Int
 b : Int
 cap : Int
structure ItemM where
 name : ByteArray
 kind : Int
 count : Int
 load : Int
 size : Int
 share : Int
 on : List Int
structure RuleM where
 kind : Int
 item : Int
 other : Int
 n : Int
 by_ : Int
 always : Bool
 machines : List Int
structure Mod where
 sT : List ByteArray
 fT : List ByteArray
 rT : List RackM
 mT : List MachM
 lT : List LinkM
 iT : List ItemM
 dT : Int
 oT : Int
 vT : Int
 aT : Int
 uT : List RuleM
def exI (n l : Int) : Bool := decide (1 ≤ n) && decide (n ≤ l)
def wiI (n a b : Int) : Bool := decide (a ≤ n) && decide (n ≤ b)
def soundB {α : Type} (p : α → List α → Bool) (l : List α) : Bool := decide (∀ i (h : i < l.length), p l[i] (l.take i) = true)
theorem soundB_true {α : Type} {p : α → List α → Bool} {l : List α} (h : ∀ i (h : i < l.length), p l[i] (l.take i) = true) : soundB p l = true := by simpa [soundB] using h
theorem soundB_false {α : Type} {p : α → List α → Bool} {l : List α} {i : Nat} (hi : i < l.length) (h : p l[i] (l.take i) = false) : soundB p l = false := by
 rw [soundB, decide_eq_false_iff_not]; intro h'; rw [h' i hi] at h; cases h
theorem soundB_iff {α : Type} {p : α → List α → Bool} {l : List α} : soundB p l = true ↔ ∀ i (h : i < l.length), p l[i] (l.take i) = true := by simp [soundB]
/-! Chapter 14 -/
def rackOk (m : Mod) (x : RackM) (pre : List RackM) : Bool :=
 exI x.site m.sT.length && exI x.feed m.fT.length && !pre.any fun y => decide (y.feed = x.feed) && decide (y.site ≠ x.site)
def machOk (m : Mod) (x : MachM) : Bool := exI x.rack m.rT.length && wiI x.cap 0 1048576
def linkOk (m : Mod) (x : LinkM) (pre : List LinkM) : Bool :=
 decide (1 ≤ x.a) && decide (x.a < x.b) && decide (x.b ≤ m.sT.length) && wiI x.cap 0 1048576 && !pre.any fun y => decide (y.a = x.a) && decide (y.b = x.b)
def siteB (m : Mod) : Bool :=
 exI m.sT.length 4 && decide (m.fT.length ≤ 16) && decide (m.rT.length ≤ 16) && exI m.mT.length 16 && decide (m.lT.length ≤ 12) && soundB (rackOk m) m.rT && m.mT.all (machOk m) && soundB (linkOk m) m.lT
def domsI (m : Mod) (by_ : Int) : Int :=
 if by_ = 1 then m.mT.length else if by_ = 2 then m.rT.length else if by_ = 3 then m.fT.length else if by_ = 4 then m.sT.length else 0
def domN (m : Mod) (by_ mc : Int) : Int :=
 if by_ = 1 then mc
 else match m.mT[(mc - 1).toNat]? with
  | none => 0
  | some x => if exI x.rack m.rT.length then (match m.rT[(x.rack - 1).toNat]? with
      | none => 0
      | some r => if by_ = 3 then r.feed else if by_ = 4 then r.site else x.rack) else 0
def domI (m : Mod) (by_ mc : Int) : Int := if exI mc m.mT.length && exI (domN m by_ mc) (domsI m by_) then domN m by_ mc else 0
/-! Chapter 15 -/
def nameList (m : Mod) : List ByteArray := m.sT ++ m.fT ++ m.rT.map (·.name) ++ m.mT.map (·.name) ++ m.iT.map (·.name)
def namesB (m : Mod) : Bool := soundB (fun s pre => isName s && !hasS pre s) (nameList m)
def incB (nm : Int) (l : List Int) : Bool :=
 decide (0 < l.length) && decide (∀ i (h : i < l.length), exI l[i] nm = true ∧ (0 < i → l.getD (i - 1) 0 < l[i]))
def itemKindB (x : ItemM) : Bool :=
 if x.kind = 0 then decide (x.count = 1 ∨ x.count = 3 ∨ x.count = 5) && decide ((x.on.length : Int) = x.count)
 else if x.kind = 1 then wiI x.count 1 8
 else if x.kind = 2 then decide (x.count = 1) && decide (x.on.length = 1)
 else false
def itemOk (m : Mod) (x : ItemM) : Bool := incB m.mT.length x.on && wiI x.load 0 1048576 && wiI x.size 0 1048576 && wiI x.share 1 1048576 && itemKindB x
def noList (l : List Int) : Bool := decide (l.length = 0)
def ruleOk (m : Mod) (x : RuleM) : Bool :=
 if x.kind = 0 then exI x.item m.iT.length && (match m.iT[(x.item - 1).toNat]? with | some y => decide (y.kind = 0) | none => false) && decide (x.other = 0) && decide (x.by_ = 0) && !x.always && noList x.machines && decide (x.n = 0)
 else if x.kind = 1 then exI x.item m.iT.length && decide (x.other = 0) && decide (x.by_ = 0) && noList x.machines && wiI x.n 0 16
 else if x.kind = 2 then exI x.item m.iT.length && wiI x.by_ 2 4 && decide (x.other = 0) && !x.always && noList x.machines && wiI x.n 0 16
 else if x.kind = 3 then exI x.item m.iT.length && incB m.mT.length x.machines && decide (x.other = 0) && decide (x.by_ = 0) && !x.always && decide (x.n = 0)
 else if x.kind = 4 then exI x.item m.iT.length && exI x.other m.iT.length && decide (x.item ≠ x.other) && decide (x.by_ = 0) && !x.always && noList x.machines && decide (x.n = 0)
 else if x.kind = 5 then decide (x.item = 0) && decide (x.other = 0) && decide (x.by_ = 0) && !x.always && noList x.machines && wiI x.n 0 200
 else if x.kind = 6 then exI x.item m.iT.length && decide (x.other = 0) && decide (x.by_ = 0) && !x.always && noList x.machines && wiI x.n 0 16
 else false
def sizesB (m : Mod) : Bool := exI m.dT m.sT.length && wiI m.oT 1 16 && wiI m.vT 0 (m.oT - 1) && wiI m.aT 0 7
def validM (m : Mod) : Bool :=
 siteB m && decide (m.iT.length ≤ 8) && decide (m.uT.length ≤ 40) && namesB m && m.iT.all (itemOk m) && m.uT.all (ruleOk m) && sizesB m
/-! Chapter 20: a placement is a list of lists of (machine, state) -/
abbrev UnitM := Int × Int
abbrev PlaceM := List (List UnitM)
def initP (m : Mod) : PlaceM := m.iT.map fun x => x.on.map fun k => (k, 0)
def unitsP (p : PlaceM) (item : Int) : List UnitM := if exI item p.length then p.getD (item - 1).toNat [] else []
def findU (l : List UnitM) (mc : Int) : Option Nat := l.findIdx? fun u => decide (u.1 = mc)
def withP (p : PlaceM) (item : Int) (l : List UnitM) : PlaceM := if exI item p.length then p.set (item - 1).toNat l else p
def dropU (l : List UnitM) (mc : Int) : List UnitM := match findU l mc with | none => l | some i => l.take i ++ l.drop (i + 1)
def atU (l : List UnitM) (mc : Int) : Nat := (l.findIdx? fun u => decide (mc < u.1)).getD l.length
def putU (l : List UnitM) (mc st : Int) : List UnitM := match findU l mc with | some i => l.set i (mc, st) | none => l.take (atU l mc) ++ (mc, st) :: l.drop (atU l mc)
def dropP (p : PlaceM) (item mc : Int) : PlaceM := withP p item (dropU (unitsP p item) mc)
def putP (p : PlaceM) (item mc st : Int) : PlaceM := withP p item (putU (unitsP p item) mc st)
def machinesP (p : PlaceM) (item st : Int) : List Int := ((unitsP p item).filter fun u => decide (u.2 = st)).map (·.1)
theorem withP_len (p : PlaceM) (item : Int) (l : List UnitM) : (withP p item l).length = p.length := by unfold withP; split <;> simp
def spreadP (m : Mod) (p : PlaceM) (item by_ : Int) : List Int :=
 (List.range (domsI m by_).toNat).map fun (d : Nat) => (((machinesP p item 0).filter fun k => decide (domI m by_ k = (d : Int) + 1)).length : Int)
/-! Chapters 21 and 22 -/
def hitsB (m : Mod) (f : Int × Int) (mc : Int) : Bool := decide (1 ≤ f.2) && decide (domI m f.1 mc = f.2)
def survP (m : Mod) (p : PlaceM) (f : Int × Int) (item : Int) : List Int := (machinesP p item 0).filter fun k => !hitsB m f k
def failsOf (m : Mod) (bit by_ : Int) : List (Int × Int) := if (m.aT / bit) % 2 = 1 then (List.range (domsI m by_).toNat).map fun (i : Nat) => (by_, (i : Int) + 1) else []
def allF (m : Mod) : List (Int × Int) := (0, 0) :: (failsOf m 1 1 ++ failsOf m 2 2 ++ failsOf m 4 3)
def failuresR (m : Mod) (r : RuleM) : List (Int × Int) := if r.kind = 0 ∨ (r.kind = 1 ∧ r.always = false) then allF m else [(0, 0)]
def crowdedI (m : Mod) (r : RuleM) (p : PlaceM) : Int := match (spreadP m p r.item r.by_).findIdx? (fun n => decide (r.n < n)) with | some i => (i : Int) + 1 | none => 0
def elsewhereI (r : RuleM) (p : PlaceM) : Option Int := (((unitsP p r.item).map (·.1)).find? fun k => !decide (k ∈ r.machines))
def holdsR (m : Mod) (r : RuleM) (p : PlaceM) (f : Int × Int) : Bool :=
 if r.kind = 0 then decide ((machinesP p r.item 0).length < 2 * (survP m p f r.item).length)
 else if r.kind = 1 then decide (r.n ≤ (survP m p (if r.always then (0, 0) else f) r.item).length)
 else if r.kind = 2 then decide (crowdedI m r p = 0)
 else if r.kind = 3 then decide (elsewhereI r p = none)
 else true
/-! Chapter 58 -/
structure EvM where
 kind : Int
 mach : Int
 group : Int
 old : List Int
 hitem : Int
 hstate : Int
 gone : Bool
 outcome : Int
def kindI (m : Mod) (item : Int) : Int := if exI item m.iT.length then (match m.iT[(item - 1).toNat]? with | some x => x.kind | none => -1) else -1
def countsB (m : Mod) (e : EvM) : Bool :=
 if e.kind = 2 then decide (kindI m e.group = 0)
 else if e.kind = 3 then (decide (kindI m e.hitem = 1) || decide (kindI m e.hitem = 2)) && exI e.mach m.mT.length
 else false
def dropAll (p : PlaceM) (item : Int) (n : Nat) : PlaceM := (List.range n).foldl (fun p (k : Nat) => dropP p item ((k : Int) + 1)) p
def putOld (m : Mod) (item : Int) (p : PlaceM) (n : Int) : PlaceM := if exI (n.tmod 100) m.mT.length then putP p item (n.tmod 100) 0 else p
def afterP (m : Mod) (p : PlaceM) (e : EvM) : PlaceM :=
 if e.kind = 2 then e.old.foldl (putOld m e.group) (dropAll p e.group m.mT.length)
 else if e.gone = true ∨ (kindI m e.hitem = 1 ∧ e.hstate ≠ 0) then dropP p e.hitem e.mach
 else if ¬ kindI m e.hitem = 1 ∧ e.hstate = 2 then putP p e.hitem e.mach 2
 else putP p e.hitem e.mach 0
def stepP (m : Mod) (p : PlaceM) (e : EvM) : PlaceM := if countsB m e then afterP m p e else p
end Go.Proofs.YtlnjaemdelnceaaGreatDoor
