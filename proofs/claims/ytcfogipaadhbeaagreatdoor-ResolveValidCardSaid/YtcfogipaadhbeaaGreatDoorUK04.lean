/- A part of the claim: see its last text. -/
import Derived.Test.YtcfogipaadhbeaaGreatDoorUK03
import Derived.Test.YtcfogipaadhbeaaGreatDoorUK01
import Derived.Test.YtcfogipaadhbeaaGreatDoorUK02

set_option maxRecDepth 100000
set_option maxHeartbeats 16000000
namespace Go.Proofs.YtcfogipaadhbeaaGreatDoor
open Go Go.RowKit Go.Proofs
theorem OwnS.formD {B : Nat} {w : World} {v : Value} {l : List ByteArray} (h : OwnS B w v l) : ∃ A c, v = .slice A l.length c ∧ l.length ≤ c ∧ Strs w w.heap.size A l := by
 have h2 := h
 rcases h2.2 with ⟨rfl, h0⟩ | ⟨g, cap, cur, rfl, _, _, hc, _⟩
 · have : l = [] := List.eq_nil_of_length_eq_zero h0
   subst this
   exact ⟨none, 0, rfl, Nat.le_refl _, Reads.none_⟩
 · exact ⟨_, _, rfl, hc, Reads.of_own h⟩
abbrev DV := Decl × Value × Value
def cellsD (x : DV) : List Value := [.int .i64 x.1.kind, .string x.1.name, x.2.1, x.2.2, .int .i64 x.1.by_, .bool x.1.always]
theorem cellsD_at : ∀ (l : List DV) (j i : Nat) (hj : j < l.length), i < 6 → (l.flatMap cellsD)[j * 6 + i]? = (cellsD l[j])[i]?
 | t :: l, 0, i, _, hi => by
   rw [List.flatMap_cons, List.getElem?_append_left (by simp [cellsD]; omega)]
   simp
 | t :: l, j + 1, i, hj, hi => by
   have ih := cellsD_at l j i (by simpa using hj) hi
   rw [List.flatMap_cons, List.getElem?_append_right (by simp [cellsD]; omega)]
   have e : (j + 1) * 6 + i - (cellsD t).length = j * 6 + i := by simp [cellsD]; omega
   rw [e, ih]; rfl
theorem cellsD_len (l : List DV) : (l.flatMap cellsD).length = l.length * 6 := by
 induction l with
 | nil => rfl
 | cons x l ih => rw [List.flatMap_cons, List.length_append, ih]; simp [cellsD]; omega
def DRow (w : World) (B : Nat) (A : Option Addr) (L : List DV) : Prop :=
 Reads w B 6 A L.length (L.flatMap cellsD) ∧ ∀ x ∈ L, ∃ ra rc na nc, x.2.1 = .slice ra x.1.refs.length rc ∧ x.2.2 = .slice na x.1.nums.length nc ∧ x.1.refs.length ≤ rc ∧ x.1.nums.length ≤ nc ∧ Strs w B ra x.1.refs ∧ Ints w B na x.1.nums ∧ Fine x.1
theorem DRow.below {w w' : World} {B : Nat} {A : Option Addr} {L : List DV} (h : DRow w B A L) (hb : Below B w w') : DRow w' B A L := by
 refine ⟨h.1.below hb, fun x hx => ?_⟩
 obtain ⟨ra, rc, na, nc, e1, e2, h1, h2, h3, h4, h5⟩ := h.2 x hx
 exact ⟨ra, rc, na, nc, e1, e2, h1, h2, h3.below hb, h4.below hb, h5⟩
theorem DRow.more {w : World} {B B' : Nat} {A : Option Addr} {L : List DV} (h : DRow w B A L) (hB : B ≤ B') : DRow w B' A L := by
 refine ⟨h.1.more hB, fun x hx => ?_⟩
 obtain ⟨ra, rc, na, nc, e1, e2, h1, h2, h3, h4, h5⟩ := h.2 x hx
 exact ⟨ra, rc, na, nc, e1, e2, h1, h2, h3.more hB, h4.more hB, h5⟩
theorem DRow.decls {w : World} {B : Nat} {A : Option Addr} {L : List DV} (h : DRow w B A L) : Decls w B A (L.map (·.1)) := by
 intro i hi
 have hi2 : i < L.length := by simpa using hi
 obtain ⟨ad, e, hb, hc⟩ := h.1.2 (by omega)
 obtain ⟨ra, rc, na, nc, e1, e2, h1, h2, h3, h4, h5⟩ := h.2 L[i] (List.getElem_mem _)
 rw [List.getElem_map]
 refine ⟨ad, e, hb, ra, rc, na, nc, fun j u hu => ?_, ⟨h1, h2⟩, h3, h4, h5⟩
 rw [add_of_add]
 have hj : j < 6 := by
  rcases Nat.lt_or_ge j 6 with hj | hj
  · exact hj
  · rw [List.getElem?_eq_none (by simp [declCells]; omega)] at hu; cases hu
 refine hc _ u ?_
 rw [cellsD_at L i j hi2 hj, ← hu]
 unfold cellsD declCells
 rw [e1, e2]
def OutD (B : Nat) (w : World) (v : Value) (L : List DV) : Prop := w.ownsRow B 43 6 v L.length (L.flatMap cellsD) ∧ ∀ x ∈ L, OwnS B w x.2.1 x.1.refs ∧ OwnI B w x.2.2 x.1.nums ∧ x.1.name.size ≤ 16384 ∧ ∀ r ∈ x.1.refs, r.size ≤ 16384
theorem infoD : (Tryz.prog.info? 43).map (fun i => (i.zero, i.size, i.bytes)) = some (some (.agg #[.int .i64 0, .string ⟨#[]⟩, .slice none 0 0, .slice none 0 0, .int .i64 0, .bool false]), 6, 88) := by kernel_rfl
theorem OutD.nil_ (B : Nat) (w : World) : OutD B w (.slice none 0 0) [] := ⟨World.ownsRow_nil _ _ _ _, fun x hx => absurd hx (by simp)⟩
theorem own_types {w : World} {B1 B2 n1 n2 s1 s2 : Nat} {e1 e2 : TypeId} {v1 v2 : Value} {x1 x2 : List Value} (h1 : w.ownsRow B1 e1 s1 v1 n1 x1) (h2 : w.ownsRow B2 e2 s2 v2 n2 x2) (hne : e1 ≠ e2) : v1.ownBlock = none ∨ v1.ownBlock ≠ v2.ownBlock := by
 rcases h1.2 with ⟨rfl, _⟩ | ⟨g, cap, cur, rfl, _, hh, _⟩
 · exact .inl rfl
 · refine .inr fun e => ?_
   rcases h2.2 with ⟨rfl, _⟩ | ⟨g2, cap2, cur2, rfl, _, hh2, _⟩
   · cases e
   · obtain rfl : g = g2 := Option.some.inj e
     rw [hh] at hh2
     simp at hh2
     exact hne hh2.2
theorem own_lowerD {w : World} {B B' n s : Nat} {e : TypeId} {v : Value} {x : List Value} (h : w.ownsRow B' e s v n x) (hB : B ≤ B') : w.ownsRow B e s v n x := by
 refine ⟨h.1, ?_⟩
 rcases h.2 with h0 | ⟨g, cap, cur, e1, e2, h3⟩
 · exact .inl h0
 · exact .inr ⟨g, cap, cur, e1, by omega, h3⟩
theorem OutD.kept {B : Nat} {w w' : World} {v : Value} {L : List DV} (h : OutD B w v L) {row : Option Nat} (hg : w.grownBy w' row) (h1 : v.ownBlock = none ∨ v.ownBlock ≠ row) (h2 : ∀ x ∈ L, (x.2.1.ownBlock = none ∨ x.2.1.ownBlock ≠ row) ∧ (x.2.2.ownBlock = none ∨ x.2.2.ownBlock ≠ row)) : OutD B w' v L :=
 ⟨World.ownsRow.kept h.1 hg h1, fun x hx => ⟨(h.2 x hx).1.kept hg (h2 x hx).1, (h.2 x hx).2.1.kept hg (h2 x hx).2, (h.2 x hx).2.2⟩⟩
theorem own_but {B g n s : Nat} {w : World} {e : TypeId} {v : Value} {x : List Value} (h : w.ownsRow B e s v n x) (hg : g < B) : v.ownBlock = none ∨ v.ownBlock ≠ some g := by
 cases hv : v.ownBlock with
 | none => exact .inl rfl
 | some k =>
   refine .inr fun e => ?_
   have := World.ownsRow.lt h _ hv
   have e2 := Option.some.inj e
   omega
theorem OutD.but {B g : Nat} {w w' : World} {v : Value} {L : List DV} (h : OutD B w v L) (hb : But g w.heap.size w w') (hg : g < B) : OutD B w' v L :=
 h.kept hb.grown (own_but h.1 hg) fun x hx => ⟨own_but (h.2 x hx).1 hg, own_but (h.2 x hx).2.1 hg⟩
theorem OutD.below {B : Nat} {w w' : World} {v : Value} {L : List DV} (h : OutD B w v L) (hb : Below w.heap.size w w') : OutD B w' v L := by
 refine h.kept (grown_of_below hb none) ?_ fun x _ => ⟨?_, ?_⟩
 · cases hv : v.ownBlock
   · exact .inl rfl
   · exact .inr (by simp)
 · cases hv : x.2.1.ownBlock
   · exact .inl rfl
   · exact .inr (by simp)
 · cases hv : x.2.2.ownBlock
   · exact .inl rfl
   · exact .inr (by simp)
theorem OutD.form {B : Nat} {w : World} {v : Value} {L : List DV} (h : OutD B w v L) : ∃ A c, v = .slice A L.length c ∧ L.length ≤ c := by
 rcases h.1.2 with ⟨rfl, h0⟩ | ⟨g, cap, cur, rfl, _, _, hc, _⟩
 · have : L = [] := List.eq_nil_of_length_eq_zero h0
   subst this
   exact ⟨none, 0, rfl, Nat.le_refl _⟩
 · exact ⟨_, _, rfl, hc⟩
theorem own_max {w : World} {B n s : Nat} {e : TypeId} {v : Value} {x : List Value} (h : w.ownsRow B e s v n x) : n ≤ 9223372036854775807 := by
 rcases h.2 with ⟨rfl, h0⟩ | ⟨g, cap, cur, rfl, _, _, hc, hm, _⟩
 · omega
 · have : maxLen = 9223372036854775807 := by decide
   omega
theorem OutD.row {B : Nat} {w : World} {A : Option Addr} {c : Nat} {L : List DV} (h : OutD B w (.slice A L.length c) L) : DRow w w.heap.size A L := by
 refine ⟨Reads.of_own h.1, fun x hx => ?_⟩
 obtain ⟨h1, h2, h3, h4⟩ := h.2 x hx
 obtain ⟨ra, rc, e1, k1, k2⟩ := h1.formD
 obtain ⟨na, nc, e2, k3, k4⟩ := h2.form
 exact ⟨ra, rc, na, nc, e1, e2, k1, k3, k2, k4, by omega, fun s hs => by have := h4 s hs; omega, own_max h1, own_max h2⟩
theorem append_decls {ops : Array Oper} {rest : List Oper} {o : Oper} {a : Act} {Q : Exit → Act → World → Prop} {w : World} (hgd : o.guard = none) (s x : Operand)
    (ho : o.op = .call { callee := .builtin .append, args := #[s, x], argTypes := #[22, 22] })
    (base : Nat) (v : Value) (l : List DV) (hs : a.eval s = v) (hown : w.ownsRow base 43 6 v l.length (l.flatMap cellsD))
    (B : Nat) (A : Option Addr) (c : Nat) (m : List DV) (hx : a.eval x = .slice A m.length c) (hr : Reads w B 6 A m.length (m.flatMap cellsD)) (h1 : ∀ y ∈ m, y.2.1.oneCell' = true ∧ y.2.2.oneCell' = true)
    (hlen : l.length + m.length ≤ 1099511627776) (hbase : base ≤ w.heap.size)
    (h : ∀ v' w', w'.ownsRow base 43 6 v' (l ++ m).length ((l ++ m).flatMap cellsD) → w.grownBy w' v.ownBlock → (v'.ownBlock = v.ownBlock ∨ v'.ownBlock = some w.heap.size) → wpList Tryz.prog ops Q rest (a.put o.dst v') w') : wpList Tryz.prog ops Q (o :: rest) a w := by
 obtain ⟨i0, hi, hz0, hz1, hz2⟩ := info_parts infoD
 refine wpList_plain hgd fun _ hK => wp_append_any w s x 22 ho base 43 i0 _ 6 88 Tryz.underlying22 hi hz0 hz1 hz2 rfl (by omega) v l.length (l.flatMap cellsD) hs hown B A m.length c (m.flatMap cellsD) hx hr ?_ ?_ ?_ hbase
  fun v' w' h2 h3 h4 => hK _ _ (h v' w' ?_ h3 h4)
 · intro u hu
   obtain ⟨y, hy, hu⟩ := List.mem_flatMap.1 hu
   have := h1 y hy
   simp [cellsD] at hu
   rcases hu with rfl | rfl | rfl | rfl | rfl | rfl
   · rfl
   · rfl
   · exact this.1
   · exact this.2
   · rfl
   · rfl
 · unfold maxLen; omega
 · omega
 · rw [List.flatMap_append, List.length_append]; exact h2
theorem step_append_decls {ops : Array Oper} {o : Oper} {a : Act} {K : Act → World → Prop} {Q : Exit → Act → World → Prop} {E : Prop} {w : World} (hgd : o.guard = none) (s x : Operand)
    (ho : o.op = .call { callee := .builtin .append, args := #[s, x], argTypes := #[22, 22] })
    (base : Nat) (v : Value) (l : List DV) (hs : a.eval s = v) (hown : w.ownsRow base 43 6 v l.length (l.flatMap cellsD))
    (B : Nat) (A : Option Addr) (c : Nat) (m : List DV) (hx : a.eval x = .slice A m.length c) (hr : Reads w B 6 A m.length (m.flatMap cellsD)) (h1 : ∀ y ∈ m, y.2.1.oneCell' = true ∧ y.2.2.oneCell' = true)
    (hlen : l.length + m.length ≤ 1099511627776) (hbase : base ≤ w.heap.size)
    (h : ∀ v' w', w'.ownsRow base 43 6 v' (l ++ m).length ((l ++ m).flatMap cellsD) → w.grownBy w' v.ownBlock → (v'.ownBlock = v.ownBlock ∨ v'.ownBlock = some w.heap.size) → K (a.put o.dst v') w') :
    if Region.wanted o (yielded ops a.tmps) = true then Oper.wp Tryz.prog o a w K Q else E := by
 have hw : Region.wanted o (yielded ops a.tmps) = true := by simp [Region.wanted, hgd]
 rw [if_pos hw]
 obtain ⟨i0, hi, hz0, hz1, hz2⟩ := info_parts infoD
 refine wp_append_any w s x 22 ho base 43 i0 _ 6 88 Tryz.underlying22 hi hz0 hz1 hz2 rfl (by omega) v l.length (l.flatMap cellsD) hs hown B A m.length c (m.flatMap cellsD) hx hr ?_ ?_ ?_ hbase
  fun v' w' h2 h3 h4 => h v' w' ?_ h3 h4
 · intro u hu
   obtain ⟨y, hy, hu⟩ := List.mem_flatMap.1 hu
   have := h1 y hy
   simp [cellsD] at hu
   rcases hu with rfl | rfl | rfl | rfl | rfl | rfl
   · rfl
   · rfl
   · exact this.1
   · exact this.2
   · rfl
   · rfl
 · unfold maxLen; omega
 · omega
 · rw [List.flatMap_append, List.length_append]; exact h2
theorem OutD.pushed {B0 B' bp : Nat} {x x3 : World} {v v3 : Value} {L : List DV} {d : Decl} {ra na : Option Addr} {rc nc : Nat} {o : Obj} (h : OutD B0 x v L) (hO : OwnS B' x (.slice ra d.refs.length rc) d.refs) (hI : OwnI B' x (.slice na d.nums.length nc) d.nums) (hB : B0 ≤ B')
    (hz : d.name.size ≤ 16384 ∧ ∀ r ∈ d.refs, r.size ≤ 16384)
    (h3 : x3.ownsRow B0 43 6 v3 (L ++ [((d, .slice ra d.refs.length rc, .slice na d.nums.length nc) : DV)]).length ((L ++ [((d, .slice ra d.refs.length rc, .slice na d.nums.length nc) : DV)]).flatMap cellsD)) (hg : (x.alloc o).grownBy x3 v.ownBlock) (_ : bp < B0) :
    OutD B0 x3 v3 (L ++ [(d, .slice ra d.refs.length rc, .slice na d.nums.length nc)]) := by
 have hv := World.ownsRow.alloc h.1 o
 refine ⟨h3, fun y hy => ?_⟩
 rcases List.mem_append.1 hy with hy | hy
 · obtain ⟨k1, k2, k3⟩ := h.2 y hy
   have a1 := OwnS.alloc k1 o
   have a2 := OwnI.alloc k2 o
   exact ⟨a1.kept hg (own_types a1 hv (by decide)), a2.kept hg (own_types a2 hv (by decide)), k3⟩
 · rw [List.mem_singleton.1 hy]
   have a1 := OwnS.alloc (show OwnS B0 x _ _ from own_lowerD hO hB) o
   have a2 := OwnI.alloc (show OwnI B0 x _ _ from own_lowerD hI hB) o
   exact ⟨a1.kept hg (own_types a1 hv (by decide)), a2.kept hg (own_types a2 hv (by decide)), hz⟩
theorem newD (x : World) (d : Decl) (ra na : Option Addr) (rc nc : Nat) {b : Nat} (hb : b = x.heap.size) : Reads (x.alloc (.cells #[.int .i64 d.kind, .string d.name, .slice ra d.refs.length rc, .slice na d.nums.length nc, .int .i64 d.by_, .bool d.always] 43)) (x.heap.size + 1) 6 (some ⟨b, 0, none⟩) 1 ([((d, .slice ra d.refs.length rc, .slice na d.nums.length nc) : DV)].flatMap cellsD) := by
 subst hb
 exact Reads.newRow x #[.int .i64 d.kind, .string d.name, .slice ra d.refs.length rc, .slice na d.nums.length nc, .int .i64 d.by_, .bool d.always] 43 1 6 rfl
theorem newS19 {B b : Nat} (w : World) (l : List ByteArray) (hB : B ≤ w.heap.size) (hb : b = w.heap.size) (hl : l.length ≤ maxLen) : OwnS B (w.alloc (.cells (l.map Value.string).toArray 9)) (.slice (some ⟨b, 0, none⟩) l.length l.length) l := by
 subst hb; exact OwnS.new w l hB hl
theorem newI19 {B b : Nat} (w : World) (l : List Int) (hB : B ≤ w.heap.size) (hb : b = w.heap.size) (hl : l.length ≤ maxLen) : OwnI B (w.alloc (.cells (l.map (Value.int .i64)).toArray 3)) (.slice (some ⟨b, 0, none⟩) l.length l.length) l := by
 subst hb; exact OwnI.new w l hB hl
theorem newD19 {B b : Nat} (w : World) (L : List DV) (hB : B ≤ w.heap.size) (hb : b = w.heap.size) (hl : L.length ≤ maxLen) : (w.alloc (.cells (L.flatMap cellsD).toArray 43)).ownsRow B 43 6 (.slice (some ⟨b, 0, none⟩) L.length L.length) L.length (L.flatMap cellsD) := by
 subst hb
 have := World.ownsRow_lit (e := 43) (size := 6) w (L.flatMap cellsD).toArray L.length hB hl (by rw [List.size_toArray, cellsD_len])
 simpa using this
theorem example19 (w : World) : Calls Tryz.prog 22 #[] w fun e w' => ∃ g v L, e = .returned v ∧ v = .slice (some ⟨g, 0, none⟩) L.length 6 ∧ OutD w.heap.size w' v L ∧ L.map (·.1) = exL ∧ Below w.heap.size w w' := by
 go_enter Tryz.func22, Tryz.ntmps22
 go_wp2_with fail
 go_ret
 have hb := ((((((((Below.refl w.heap.size w).alloc (Nat.le_refl _) (.cells #[.string (⟨#[97]⟩ : ByteArray)] 9)).alloc (by simp) (.cells #[.int .i64 2, .int .i64 0] 3)).alloc (by simp; omega) (.cells #[.string (⟨#[114]⟩ : ByteArray)] 9)).alloc (by simp; omega) (.cells #[.int .i64 3] 3)).alloc (by simp; omega) (.cells #[.string (⟨#[97]⟩ : ByteArray), .string (⟨#[102]⟩ : ByteArray)] 9)).alloc (by simp; omega) (.cells #[.string (⟨#[109]⟩ : ByteArray)] 9)).alloc (by simp; omega) (.cells #[.int .i64 1, .int .i64 0, .int .i64 1] 3))
 refine ⟨_, _, [(⟨8, ⟨#[]⟩, [(⟨#[97]⟩ : ByteArray)], [2, 0], 0, false⟩, .slice (some ⟨w.heap.size, 0, none⟩) 1 1, .slice (some ⟨w.heap.size + 1, 0, none⟩) 2 2),
  (⟨3, (⟨#[109]⟩ : ByteArray), [(⟨#[114]⟩ : ByteArray)], [3], 0, false⟩, .slice (some ⟨w.heap.size + 1 + 1, 0, none⟩) 1 1, .slice (some ⟨w.heap.size + 1 + 1 + 1, 0, none⟩) 1 1),
  (⟨2, (⟨#[114]⟩ : ByteArray), [(⟨#[97]⟩ : ByteArray), (⟨#[102]⟩ : ByteArray)], [], 0, false⟩, .slice (some ⟨w.heap.size + 1 + 1 + 1 + 1, 0, none⟩) 2 2, .slice none 0 0),
  (⟨1, (⟨#[102]⟩ : ByteArray), [], [], 0, false⟩, .slice none 0 0, .slice none 0 0), (⟨0, (⟨#[97]⟩ : ByteArray), [], [], 0, false⟩, .slice none 0 0, .slice none 0 0),
  (⟨7, (⟨#[106]⟩ : ByteArray), [(⟨#[109]⟩ : ByteArray)], [1, 0, 1], 0, false⟩, .slice (some ⟨w.heap.size + 1 + 1 + 1 + 1 + 1, 0, none⟩) 1 1, .slice (some ⟨w.heap.size + 1 + 1 + 1 + 1 + 1 + 1, 0, none⟩) 3 3)], rfl, rfl, ⟨newD19 _ [(⟨8, ⟨#[]⟩, [(⟨#[97]⟩ : ByteArray)], [2, 0], 0, false⟩, .slice (some ⟨w.heap.size, 0, none⟩) 1 1, .slice (some ⟨w.heap.size + 1, 0, none⟩) 2 2),
  (⟨3, (⟨#[109]⟩ : ByteArray), [(⟨#[114]⟩ : ByteArray)], [3], 0, false⟩, .slice (some ⟨w.heap.size + 1 + 1, 0, none⟩) 1 1, .slice (some ⟨w.heap.size + 1 + 1 + 1, 0, none⟩) 1 1),
  (⟨2, (⟨#[114]⟩ : ByteArray), [(⟨#[97]⟩ : ByteArray), (⟨#[102]⟩ : ByteArray)], [], 0, false⟩, .slice (some ⟨w.heap.size + 1 + 1 + 1 + 1, 0, none⟩) 2 2, .slice none 0 0),
  (⟨1, (⟨#[102]⟩ : ByteArray), [], [], 0, false⟩, .slice none 0 0, .slice none 0 0), (⟨0, (⟨#[97]⟩ : ByteArray), [], [], 0, false⟩, .slice none 0 0, .slice none 0 0),
  (⟨7, (⟨#[106]⟩ : ByteArray), [(⟨#[109]⟩ : ByteArray)], [1, 0, 1], 0, false⟩, .slice (some ⟨w.heap.size + 1 + 1 + 1 + 1 + 1, 0, none⟩) 1 1, .slice (some ⟨w.heap.size + 1 + 1 + 1 + 1 + 1 + 1, 0, none⟩) 3 3)] (by simp; omega) (by simp) (by show 6 ≤ maxLen; decide), fun x hx => ?_⟩, rfl, hb.alloc (by simp; omega) _⟩
 have hz : ∀ d ∈ exL, d.name.size ≤ 16384 ∧ ∀ r ∈ d.refs, r.size ≤ 16384 := by decide
 simp only [List.mem_cons, List.not_mem_nil, or_false] at hx
 rcases hx with rfl | rfl | rfl | rfl | rfl | rfl
 · exact ⟨(((((((newS19 w [(⟨#[97]⟩ : ByteArray)] (Nat.le_refl _) rfl (by decide)).alloc _).alloc _).alloc _).alloc _).alloc _).alloc _).alloc _, ((((((newI19 _ [2, 0] (by simp) (by simp) (by decide)).alloc _).alloc _).alloc _).alloc _).alloc _).alloc _, hz _ (by simp [exL])⟩
 · exact ⟨(((((newS19 _ [(⟨#[114]⟩ : ByteArray)] (by simp; omega) (by simp) (by decide)).alloc _).alloc _).alloc _).alloc _).alloc _, ((((newI19 _ [3] (by simp; omega) (by simp) (by decide)).alloc _).alloc _).alloc _).alloc _, hz _ (by simp [exL])⟩
 · exact ⟨(((newS19 _ [(⟨#[97]⟩ : ByteArray), (⟨#[102]⟩ : ByteArray)] (by simp; omega) (by simp) (by decide)).alloc _).alloc _).alloc _, OwnI.nil_ _ _, hz _ (by simp [exL])⟩
 · exact ⟨OwnS.nil_ _ _, OwnI.nil_ _ _, hz _ (by simp [exL])⟩
 · exact ⟨OwnS.nil_ _ _, OwnI.nil_ _ _, hz _ (by simp [exL])⟩
 · exact ⟨((newS19 _ [(⟨#[109]⟩ : ByteArray)] (by simp; omega) (by simp) (by decide)).alloc _).alloc _, (newI19 _ [1, 0, 1] (by simp; omega) (by simp) (by decide)).alloc _, hz _ (by simp [exL])⟩
structure El (α : Type) where
 T : TypeId
 sz : Nat
 f : α → List Value
 len : ∀ x, (f x).length = sz
 one : ∀ x, ∀ u ∈ f x, u.oneCell' = true
 pos : 0 < sz
section
variable {α : Type} (E : El α)
def elCells (l : List α) : List Value := l.flatMap E.f
theorem elCells_len (l : List α) : (elCells E l).length = l.length * E.sz := by
 induction l with
 | nil => simp [elCells]
 | cons b l ih => simp only [elCells, List.flatMap_cons, List.length_append, E.len, List.length_cons] at ih ⊢; rw [ih, Nat.add_mul]; omega
theorem elCells_append (a b : List α) : elCells E (a ++ b) = elCells E a ++ elCells E b := by simp [elCells]
theorem elCells_one (l : List α) : ∀ u ∈ elCells E l, u.oneCell' = true := by
 intro u hu
 simp only [elCells, List.mem_flatMap] at hu
 obtain ⟨b, _, hu⟩ := hu
 exact E.one b u hu
theorem elCells_at (l : List α) : ∀ k (hk : k < l.length) (j : Nat) (u : Value), (E.f l[k])[j]? = some u → (elCells E l)[k * E.sz + j]? = some u := by
 induction l with
 | nil => intro k hk; simp at hk
 | cons b l ih =>
   intro k hk j u hu
   have hj : j < E.sz := by have := (List.getElem?_eq_some_iff.1 hu).1; rwa [E.len] at this
   cases k with
   | zero =>
     simp only [elCells, List.flatMap_cons, Nat.zero_mul, Nat.zero_add]
     rw [List.getElem?_append_left (by rw [E.len]; exact hj)]
     exact hu
   | succ k =>
     have := ih k (by simpa using hk) j u hu
     simp only [elCells, List.flatMap_cons]
     rw [List.getElem?_append_right (by rw [E.len, Nat.add_mul]; omega), E.len]
     have e : (k + 1) * E.sz + j - E.sz = k * E.sz + j := by rw [Nat.add_mul]; omega
     rw [e]
     exact this
def OwnE_ (B : Nat) (w : World) (v : Value) (l : List α) : Prop := w.ownsRow B E.T E.sz v l.length (elCells E l)
def RdE (w : World) (A : Option Addr) (l : List α) : Prop := ∀ k (_ : k < l.length), ∃ b off, A = some ⟨b, off, none⟩ ∧ b < w.heap.size ∧ ∀ (j : Nat) (u : Value), (E.f l[k])[j]? = some u → w.cell? ⟨b, off + k * E.sz + j, none⟩ = some u
variable {E} {B : Nat} {w w' : World} {v : Value} {l : List α} {A : Option Addr}
theorem OwnE_.nil_ (B : Nat) (w : World) : OwnE_ E B w (.slice none 0 0) [] := World.ownsRow_nil _ _ _ _
theorem OwnE_.empty (w : World) (hB : B ≤ w.heap.size) : OwnE_ E B (w.alloc (.cells #[] E.T)) (.slice (some ⟨w.heap.size, 0, none⟩) 0 0) [] := by
 have := World.ownsRow_lit (e := E.T) (size := E.sz) w #[] 0 hB (by decide) (by simp)
 simpa [OwnE_, elCells] using this
theorem OwnE_.lt (h : OwnE_ E B w v l) : ∀ k, v.ownBlock = some k → B ≤ k ∧ k < w.heap.size := World.ownsRow.lt h
theorem OwnE_.below (h : OwnE_ E B w v l) (hb : Below w.heap.size w w') : OwnE_ E B w' v l := by
 refine ⟨h.1, ?_⟩
 rcases h.2 with h0 | ⟨g, cap, cur, e, hb0, hh, h4⟩
 · exact .inl h0
 · exact .inr ⟨g, cap, cur, e, hb0, Blk.below hh hb (Blk.lt hh), h4⟩
theorem OwnE_.ne {g : Nat} {T : TypeId} {cs : Array Value} (h : OwnE_ E B w v l) (hb : Blk w g T cs) (hne : T ≠ E.T) : v.ownBlock ≠ some g := by
 rintro e
 rcases h.2 with ⟨rfl, _⟩ | ⟨g2, cap, cur, rfl, _, hh, _⟩
 · cases e
 · obtain rfl : g2 = g := Option.some.inj e
   rw [Blk] at hb
   have := hb.symm.trans hh
   simp at this
   exact hne this.2
theorem OwnE_.kept (h : OwnE_ E B w v l) {row : Option Nat} (hg : w.grownBy w' row) (hne : v.ownBlock = none ∨ v.ownBlock ≠ row) : OwnE_ E B w' v l := World.ownsRow.kept h hg hne
theorem OwnE_.form (h : OwnE_ E B w v l) : ∃ A c, v = .slice A l.length c ∧ l.length ≤ c ∧ c ≤ maxLen := by
 rcases h.2 with ⟨rfl, h0⟩ | ⟨g, cap, cur, rfl, _, _, hc, hm, _⟩
 · have : l = [] := List.eq_nil_of_length_eq_zero h0
   subst this
   exact ⟨none, 0, rfl, Nat.le_refl _, by decide⟩
 · exact ⟨_, cap, rfl, hc, hm⟩
theorem OwnE_.rd (h : OwnE_ E B w v l) : ∃ A c, v = .slice A l.length c ∧ RdE E w A l := by
 rcases h.2 with ⟨rfl, h0⟩ | ⟨g, cap, cur, rfl, _, hh, hc, hm, _, ht⟩
 · have : l = [] := List.eq_nil_of_length_eq_zero h0
   subst this
   exact ⟨none, 0, rfl, fun k hk => absurd hk (by simp)⟩
 · refine ⟨_, cap, rfl, fun k hk => ⟨g, 0, rfl, Blk.lt hh, fun j u hu => ?_⟩⟩
   have h1 := elCells_at E l k hk j u hu
   rw [Nat.zero_add, Blk.cell hh (k * E.sz + j)]
   rw [← ht, List.getElem?_take] at h1
   split at h1
   · simpa using h1
   · cases h1
theorem RdE.grow (h : RdE E w A l) (hb : Below w.heap.size w w') : RdE E w' A l := fun k hk => by
 obtain ⟨b, off, e, hl, hc⟩ := h k hk
 exact ⟨b, off, e, Nat.lt_of_lt_of_le hl hb.size, fun j u hu => (hb.cell (p := ⟨b, off + k * E.sz + j, none⟩) hl).trans (hc j u hu)⟩
theorem RdE.nil_ : RdE E w A ([] : List α) := fun k hk => absurd hk (by simp)
theorem Reads.newE (w : World) (x : α) : Reads (w.alloc (.cells (E.f x).toArray E.T)) (w.heap.size + 1) E.sz (some ⟨w.heap.size, 0, none⟩) 1 (elCells E [x]) :=
 ⟨by rw [elCells_len]; rfl, fun _ => ⟨_, rfl, by simp, fun j u hu => by rw [add_none, Nat.zero_add, cell?_new]; simpa [elCells] using hu⟩⟩
theorem RdE.reads (h : RdE E w A l) : Reads w w.heap.size E.sz A l.length (elCells E l) := by
 refine ⟨elCells_len E l, fun h0 => ?_⟩
 obtain ⟨b, off, e, hl, _⟩ := h 0 h0
 refine ⟨_, e, hl, fun j u hu => ?_⟩
 have hj : j < l.length * E.sz := by have := (List.getElem?_eq_some_iff.1 hu).1; rwa [elCells_len] at this
 have hp := E.pos
 have hk : j / E.sz < l.length := Nat.div_lt_of_lt_mul (by rw [Nat.mul_comm]; exact hj)
 obtain ⟨b2, off2, e2, _, hc⟩ := h (j / E.sz) hk
 rw [e] at e2
 injection e2 with e2
 injection e2 with e3 e4 _
 subst e3 e4
 have hm : j % E.sz < E.sz := Nat.mod_lt _ hp
 have hjj : j / E.sz * E.sz + j % E.sz = j := by have := Nat.div_add_mod j E.sz; rw [Nat.mul_comm] at this; exact this
 have hu2 : (E.f l[j / E.sz])[j % E.sz]? = some u := by
  have h2 : j % E.sz < (E.f l[j / E.sz]).length := by rw [E.len]; exact hm
  have h3 := elCells_at E l (j / E.sz) hk (j % E.sz) _ (List.getElem?_eq_getElem h2)
  rw [hjj, hu] at h3
  rw [List.getElem?_eq_getElem h2]
  exact h3.symm
 have := hc _ _ hu2
 rw [show (⟨b, off, none⟩ : Addr).add j = ⟨b, off + j, none⟩ from add_none _ _ _]
 rw [← this]
 congr 2
 omega
end
section
variable {α : Type} {E : El α} {z : Value} {bytes : Nat} {sT : TypeId}
structure ElOk (E : El α) (sT : TypeId) (z : Value) (bytes : Nat) : Prop where
 info : (Tryz.prog.info? E.T).map (fun i => (i.zero, i.size, i.bytes)) = some (some z, E.sz, bytes)
 und : Tryz.prog.underlying sT = some (.slice E.T)
 zs : z.cells.size = E.sz
 small : bytes ≤ 1000
theorem append_el (K : ElOk E sT z bytes) {ops : Array Oper} {rest : List Oper} {o : Oper} {a : Act} {Q : Exit → Act → World → Prop} {w : World} (hgd : o.guard = none) (s x : Operand)
    (ho : o.op = .call { callee := .builtin .append, args := #[s, x], argTypes := #[sT, sT] })
    (base : Nat) (v : Value) (l : List α) (hs : a.eval s = v) (hown : OwnE_ E base w v l)
    (B : Nat) (A : Option Addr) (m c : Nat) (l2 : List α) (hx : a.eval x = .slice A m c) (hr : Reads w B E.sz A m (elCells E l2)) (hm : l2.length = m)
    (hlen : l.length + l2.length ≤ 1000000) (hbase : base ≤ w.heap.size)
    (h : ∀ v' w', OwnE_ E base w' v' (l ++ l2) → w.grownBy w' v.ownBlock → (v'.ownBlock = v.ownBlock ∨ v'.ownBlock = some w.heap.size) → wpList Tryz.prog ops Q rest (a.put o.dst v') w') : wpList Tryz.prog ops Q (o :: rest) a w := by
 obtain ⟨i0, hi, hz0, hz1, hz2⟩ := info_parts K.info
 have hb := K.small
 have hsz : (l.length + m) * bytes ≤ 1000000 * 1000 := Nat.mul_le_mul (by omega) hb
 refine wpList_plain hgd fun _ hK => wp_append_any w s x sT ho base E.T i0 _ E.sz bytes K.und hi hz0 hz1 hz2 K.zs E.pos v l.length (elCells E l) hs hown B A m c (elCells E l2) hx hr (elCells_one E l2) (by unfold maxLen; omega) (by omega) hbase
  fun v' w' h2 h3 h4 => hK _ _ (h v' w' ?_ h3 h4)
 unfold OwnE_; rw [elCells_append, List.length_append, hm]; exact h2
theorem step_append_el (K : ElOk E sT z bytes) {ops : Array Oper} {o : Oper} {a : Act} {Kt : Act → World → Prop} {Q : Exit → Act → World → Prop} {X : Prop} {w : World} (hgd : o.guard = none) (s x : Operand)
    (ho : o.op = .call { callee := .builtin .append, args := #[s, x], argTypes := #[sT, sT] })
    (base : Nat) (v : Value) (l : List α) (hs : a.eval s = v) (hown : OwnE_ E base w v l)
    (B : Nat) (A : Option Addr) (m c : Nat) (l2 : List α) (hx : a.eval x = .slice A m c) (hr : Reads w B E.sz A m (elCells E l2)) (hm : l2.length = m)
    (hlen : l.length + l2.length ≤ 1000000) (hbase : base ≤ w.heap.size)
    (h : ∀ v' w', OwnE_ E base w' v' (l ++ l2) → w.grownBy w' v.ownBlock → (v'.ownBlock = v.ownBlock ∨ v'.ownBlock = some w.heap.size) → Kt (a.put o.dst v') w') :
    if Region.wanted o (yielded ops a.tmps) = true then Oper.wp Tryz.prog o a w Kt Q else X := by
 have hw : Region.wanted o (yielded ops a.tmps) = true := by simp [Region.wanted, hgd]
 rw [if_pos hw]
 obtain ⟨i0, hi, hz0, hz1, hz2⟩ := info_parts K.info
 have hb := K.small
 have hsz : (l.length + m) * bytes ≤ 1000000 * 1000 := Nat.mul_le_mul (by omega) hb
 refine wp_append_any w s x sT ho base E.T i0 _ E.sz bytes K.und hi hz0 hz1 hz2 K.zs E.pos v l.length (elCells E l) hs hown B A m c (elCells E l2) hx hr (elCells_one E l2) (by unfold maxLen; omega) (by omega) hbase
  fun v' w' h2 h3 h4 => h v' w' ?_ h3 h4
 unfold OwnE_; rw [elCells_append, List.length_append, hm]; exact h2
end
theorem OwnE_.keepB {α : Type} {E : El α} {B : Nat} {w w' : World} {v : Value} {l : List α} (h : OwnE_ E B w v l) (h3 : ∀ g cur, v.ownBlock = some g → Blk w g E.T cur → Blk w' g E.T cur) : OwnE_ E B w' v l := by
 refine ⟨h.1, ?_⟩
 rcases h.2 with h0 | ⟨g, cap, cur, e, hb, hh, h4⟩
 · exact .inl h0
 · exact .inr ⟨g, cap, cur, e, hb, h3 _ _ (by rw [e]; rfl) hh, h4⟩
end Go.Proofs.YtcfogipaadhbeaaGreatDoor
