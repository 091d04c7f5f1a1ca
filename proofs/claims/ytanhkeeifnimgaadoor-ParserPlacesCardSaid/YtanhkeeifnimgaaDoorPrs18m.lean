/- A slice of declarations of the call's own; what Parse and Decl answer. Conditions: lengths that fit memory. The walk of parser.Parse. Conditions: the table of spaces is laid; lengths that fit memory. The walk of parser.Decl. Conditions: the table of spaces is laid; lengths that fit memory. -/
import Derived.Test.YtanhkeeifnimgaaDoorPrs18j
import Derived.Test.YtanhkeeifnimgaaDoorPar18g
import Derived.Test.YtanhkeeifnimgaaDoorSyn17t

namespace Go.Proofs.YtanhkeeifnimgaaDoor
open Go Go.RowKit Go.Proofs

/-- a declaration and the values of its two slices -/
abbrev DV := Decl × Value × Value
def cellsD (x : DV) : List Value := [.int .i64 x.1.kind, .string x.1.name, x.2.1, x.2.2, .int .i64 x.1.by_, .bool x.1.always]
theorem cellsD_at : ∀ (l : List DV) (j i : Nat) (hj : j < l.length), i < 6 → (l.flatMap cellsD)[j * 6 + i]? = (cellsD l[j])[i]?
  | t :: l, 0, i, _, hi => by
    rw [List.flatMap_cons, List.getElem?_append_left (by simp [cellsD]; omega)]
    simp
  | t :: l, j + 1, i, hj, hi => by
    have ih := cellsD_at l j i (by simpa using hj) hi
    rw [List.flatMap_cons, List.getElem?_append_right (by simp [cellsD]; omega)]
    have e : (j + 1) * 6 + i - (cellsD t).length = j * 6 + i := by simp [cellsD]; omega
    rw [e, ih]; rfl
theorem cellsD_len (l : List DV) : (l.flatMap cellsD).length = l.length * 6 := by
  induction l with
  | nil => rfl
  | cons x l ih => rw [List.flatMap_cons, List.length_append, ih]; simp [cellsD]; omega
/-- a slice that holds declarations -/
def DRow (w : World) (B : Nat) (A : Option Addr) (L : List DV) : Prop :=
  Reads w B 6 A L.length (L.flatMap cellsD) ∧ ∀ x ∈ L, ∃ ra rc na nc, x.2.1 = .slice ra x.1.refs.length rc ∧ x.2.2 = .slice na x.1.nums.length nc ∧ x.1.refs.length ≤ rc ∧ x.1.nums.length ≤ nc ∧ Strs w B ra x.1.refs ∧ Ints w B na x.1.nums ∧ Fine x.1
theorem DRow.below {w w' : World} {B : Nat} {A : Option Addr} {L : List DV} (h : DRow w B A L) (hb : Below B w w') : DRow w' B A L := by
  refine ⟨h.1.below hb, fun x hx => ?_⟩
  obtain ⟨ra, rc, na, nc, e1, e2, h1, h2, h3, h4, h5⟩ := h.2 x hx
  exact ⟨ra, rc, na, nc, e1, e2, h1, h2, h3.below hb, h4.below hb, h5⟩
theorem DRow.more {w : World} {B B' : Nat} {A : Option Addr} {L : List DV} (h : DRow w B A L) (hB : B ≤ B') : DRow w B' A L := by
  refine ⟨h.1.more hB, fun x hx => ?_⟩
  obtain ⟨ra, rc, na, nc, e1, e2, h1, h2, h3, h4, h5⟩ := h.2 x hx
  exact ⟨ra, rc, na, nc, e1, e2, h1, h2, h3.more hB, h4.more hB, h5⟩
theorem DRow.decls {w : World} {B : Nat} {A : Option Addr} {L : List DV} (h : DRow w B A L) : Decls w B A (L.map (·.1)) := by
  intro i hi
  have hi2 : i < L.length := by simpa using hi
  obtain ⟨ad, e, hb, hc⟩ := h.1.2 (by omega)
  obtain ⟨ra, rc, na, nc, e1, e2, h1, h2, h3, h4, h5⟩ := h.2 L[i] (List.getElem_mem _)
  rw [List.getElem_map]
  refine ⟨ad, e, hb, ra, rc, na, nc, fun j u hu => ?_, ⟨h1, h2⟩, h3, h4, h5⟩
  rw [add_of_add]
  have hj : j < 6 := by
    rcases Nat.lt_or_ge j 6 with hj | hj
    · exact hj
    · rw [List.getElem?_eq_none (by simp [declCells]; omega)] at hu; cases hu
  refine hc _ u ?_
  rw [cellsD_at L i j hi2 hj, ← hu]
  unfold cellsD declCells
  rw [e1, e2]
/-- a slice of declarations of the call's own, each with rows of the call's own -/
def OutD (B : Nat) (w : World) (v : Value) (L : List DV) : Prop := w.ownsRow B 38 6 v L.length (L.flatMap cellsD) ∧ ∀ x ∈ L, OwnS B w x.2.1 x.1.refs ∧ OwnI B w x.2.2 x.1.nums ∧ x.1.name.size ≤ 16384 ∧ ∀ r ∈ x.1.refs, r.size ≤ 16384
theorem infoD : (Tryd.prog.info? 38).map (fun i => (i.zero, i.size, i.bytes)) = some (some (.agg #[.int .i64 0, .string ⟨#[]⟩, .slice none 0 0, .slice none 0 0, .int .i64 0, .bool false]), 6, 88) := by kernel_rfl
theorem OutD.nil_ (B : Nat) (w : World) : OutD B w (.slice none 0 0) [] := ⟨World.ownsRow_nil _ _ _ _, fun x hx => absurd hx (by simp)⟩
theorem own_types {w : World} {B1 B2 n1 n2 s1 s2 : Nat} {e1 e2 : TypeId} {v1 v2 : Value} {x1 x2 : List Value} (h1 : w.ownsRow B1 e1 s1 v1 n1 x1) (h2 : w.ownsRow B2 e2 s2 v2 n2 x2) (hne : e1 ≠ e2) : v1.ownBlock = none ∨ v1.ownBlock ≠ v2.ownBlock := by
  rcases h1.2 with ⟨rfl, _⟩ | ⟨g, cap, cur, rfl, _, hh, _⟩
  · exact .inl rfl
  · refine .inr fun e => ?_
    rcases h2.2 with ⟨rfl, _⟩ | ⟨g2, cap2, cur2, rfl, _, hh2, _⟩
    · cases e
    · obtain rfl : g = g2 := Option.some.inj e
      rw [hh] at hh2
      simp at hh2
      exact hne hh2.2
theorem own_lower {w : World} {B B' n s : Nat} {e : TypeId} {v : Value} {x : List Value} (h : w.ownsRow B' e s v n x) (hB : B ≤ B') : w.ownsRow B e s v n x := by
  refine ⟨h.1, ?_⟩
  rcases h.2 with h0 | ⟨g, cap, cur, e1, e2, h3⟩
  · exact .inl h0
  · exact .inr ⟨g, cap, cur, e1, by omega, h3⟩
theorem OutD.kept {B : Nat} {w w' : World} {v : Value} {L : List DV} (h : OutD B w v L) {row : Option Nat} (hg : w.grownBy w' row) (h1 : v.ownBlock = none ∨ v.ownBlock ≠ row) (h2 : ∀ x ∈ L, (x.2.1.ownBlock = none ∨ x.2.1.ownBlock ≠ row) ∧ (x.2.2.ownBlock = none ∨ x.2.2.ownBlock ≠ row)) : OutD B w' v L :=
  ⟨World.ownsRow.kept h.1 hg h1, fun x hx => ⟨(h.2 x hx).1.kept hg (h2 x hx).1, (h.2 x hx).2.1.kept hg (h2 x hx).2, (h.2 x hx).2.2⟩⟩
theorem own_but {B g n s : Nat} {w : World} {e : TypeId} {v : Value} {x : List Value} (h : w.ownsRow B e s v n x) (hg : g < B) : v.ownBlock = none ∨ v.ownBlock ≠ some g := by
  cases hv : v.ownBlock with
  | none => exact .inl rfl
  | some k =>
    refine .inr fun e => ?_
    have := World.ownsRow.lt h _ hv
    have e2 := Option.some.inj e
    omega
theorem OutD.but {B g : Nat} {w w' : World} {v : Value} {L : List DV} (h : OutD B w v L) (hb : But g w.heap.size w w') (hg : g < B) : OutD B w' v L :=
  h.kept hb.grown (own_but h.1 hg) fun x hx => ⟨own_but (h.2 x hx).1 hg, own_but (h.2 x hx).2.1 hg⟩
theorem OutD.below {B : Nat} {w w' : World} {v : Value} {L : List DV} (h : OutD B w v L) (hb : Below w.heap.size w w') : OutD B w' v L := by
  refine h.kept (grown_of_below hb none) ?_ fun x _ => ⟨?_, ?_⟩
  · cases hv : v.ownBlock
    · exact .inl rfl
    · exact .inr (by simp)
  · cases hv : x.2.1.ownBlock
    · exact .inl rfl
    · exact .inr (by simp)
  · cases hv : x.2.2.ownBlock
    · exact .inl rfl
    · exact .inr (by simp)
theorem OutD.form {B : Nat} {w : World} {v : Value} {L : List DV} (h : OutD B w v L) : ∃ A c, v = .slice A L.length c ∧ L.length ≤ c := by
  rcases h.1.2 with ⟨rfl, h0⟩ | ⟨g, cap, cur, rfl, _, _, hc, _⟩
  · have : L = [] := List.eq_nil_of_length_eq_zero h0
    subst this
    exact ⟨none, 0, rfl, Nat.le_refl _⟩
  · exact ⟨_, _, rfl, hc⟩
theorem own_max {w : World} {B n s : Nat} {e : TypeId} {v : Value} {x : List Value} (h : w.ownsRow B e s v n x) : n ≤ 9223372036854775807 := by
  rcases h.2 with ⟨rfl, h0⟩ | ⟨g, cap, cur, rfl, _, _, hc, hm, _⟩
  · omega
  · have : maxLen = 9223372036854775807 := by decide
    omega
theorem OutD.row {B : Nat} {w : World} {A : Option Addr} {c : Nat} {L : List DV} (h : OutD B w (.slice A L.length c) L) : DRow w w.heap.size A L := by
  refine ⟨Reads.of_own h.1, fun x hx => ?_⟩
  obtain ⟨h1, h2, h3, h4⟩ := h.2 x hx
  obtain ⟨ra, rc, e1, k1, k2⟩ := h1.form3
  obtain ⟨na, nc, e2, k3, k4⟩ := h2.form
  exact ⟨ra, rc, na, nc, e1, e2, k1, k3, k2, k4, by omega, fun s hs => by have := h4 s hs; omega, own_max h1, own_max h2⟩
theorem append_decls {ops : Array Oper} {rest : List Oper} {o : Oper} {a : Act} {Q : Exit → Act → World → Prop} {w : World} (hgd : o.guard = none) (s x : Operand)
    (ho : o.op = .call { callee := .builtin .append, args := #[s, x], argTypes := #[23, 23] })
    (base : Nat) (v : Value) (l : List DV) (hs : a.eval s = v) (hown : w.ownsRow base 38 6 v l.length (l.flatMap cellsD))
    (B : Nat) (A : Option Addr) (c : Nat) (m : List DV) (hx : a.eval x = .slice A m.length c) (hr : Reads w B 6 A m.length (m.flatMap cellsD)) (h1 : ∀ y ∈ m, y.2.1.oneCell' = true ∧ y.2.2.oneCell' = true)
    (hlen : l.length + m.length ≤ 1099511627776) (hbase : base ≤ w.heap.size)
    (h : ∀ v' w', w'.ownsRow base 38 6 v' (l ++ m).length ((l ++ m).flatMap cellsD) → w.grownBy w' v.ownBlock → (v'.ownBlock = v.ownBlock ∨ v'.ownBlock = some w.heap.size) → wpList Tryd.prog ops Q rest (a.put o.dst v') w') : wpList Tryd.prog ops Q (o :: rest) a w := by
  obtain ⟨i0, hi, hz0, hz1, hz2⟩ := info_parts infoD
  refine wpList_plain hgd fun _ hK => wp_append_any w s x 23 ho base 38 i0 _ 6 88 Tryd.underlying23 hi hz0 hz1 hz2 rfl (by omega) v l.length (l.flatMap cellsD) hs hown B A m.length c (m.flatMap cellsD) hx hr ?_ ?_ ?_ hbase
    fun v' w' h2 h3 h4 => hK _ _ (h v' w' ?_ h3 h4)
  · intro u hu
    obtain ⟨y, hy, hu⟩ := List.mem_flatMap.1 hu
    have := h1 y hy
    simp [cellsD] at hu
    rcases hu with rfl | rfl | rfl | rfl | rfl | rfl
    · rfl
    · rfl
    · exact this.1
    · exact this.2
    · rfl
    · rfl
  · unfold maxLen; omega
  · omega
  · rw [List.flatMap_append, List.length_append]; exact h2
/-- a declaration's slice that grows is no part of a parser's state -/
theorem PSt.grownD {w w' : World} {bp B B0 n : Nat} {s : PS} {v : Value} {x : List Value} (h : PSt w bp B s) (hv : w.ownsRow B0 38 6 v n x) (h0 : bp < B0) (hg : w.grownBy w' v.ownBlock) : PSt w' bp B s := by
  obtain ⟨b, off, c, rv, nv, h1, h2, h3, h4, h5, h6, h7, h8, h9, h10, h11⟩ := h
  have hlt := World.ownsRow.lt hv
  refine ⟨b, off, c, rv, nv, Blk.grown h1 hg (fun e => by have := hlt _ e.symm; omega), h2, h3, h4, ?_, h6.kept hg (own_types h6 hv (by decide)), h7.kept hg (own_types h7 hv (by decide)), h8, h9, Nat.le_trans h10 hg.size, h11⟩
  refine Reads.more (B := w.heap.size) ⟨h5.1, fun hn => ?_⟩ hg.size
  obtain ⟨ad, e, hl, hc⟩ := h5.2 hn
  refine ⟨ad, e, hl, fun j u hu => (World.cell?_of_block (hg.block _ (by rw [block_of_add]; exact hl) (fun e2 => ?_))).trans (hc j u hu)⟩
  injection e with e
  subst e
  rw [block_of_add] at e2
  have := hlt _ e2.symm
  simp only at this
  omega
/-- what Parse answers -/
def ParseP (r : List Decl × Int × Int) (w : World) (e : Ending) (w' : World) : Prop :=
  ∃ A c L, e = .returned (.tuple #[.slice A L.length c, .int .i64 r.2.1, .int .i64 r.2.2]) ∧ L.map (·.1) = r.1 ∧ L.length ≤ c ∧ DRow w' w'.heap.size A L ∧ Below w.heap.size w w'
theorem parseP_no {w w' : World} (p e : Int) (h : Below w.heap.size w w') : ParseP ([], p, e) w (.returned (.tuple #[.slice none 0 0, .int .i64 p, .int .i64 e])) w' :=
  ⟨none, 0, [], rfl, rfl, Nat.le_refl _, ⟨Reads.none_, fun x hx => absurd hx (by simp)⟩, h⟩
end Go.Proofs.YtanhkeeifnimgaaDoor

namespace Go.Proofs.YtanhkeeifnimgaaDoor
open Go Go.RowKit Go.Proofs

theorem PSt.new {w : World} {b off c : Nat} {L : List Tok} (hT : Toks w w.heap.size (some ⟨b, off, none⟩) L) (hb : b < w.heap.size) (hc : L.length ≤ c) (hE : EndT L) :
    PSt (w.alloc (.cells #[.slice (some ⟨b, off, none⟩) L.length c, .int .i64 0, .int .i64 0, .string ⟨#[]⟩, .slice none 0 0, .slice none 0 0, .int .i64 0, .bool false] 49)) w.heap.size (w.heap.size + 1) ⟨L, 0, zeroD⟩ :=
  ⟨b, off, c, .slice none 0 0, .slice none 0 0, Blk.new w 49 _, hc, by omega, hb, (Reads.alloc hT (Nat.le_refl _) _).more (by simp), OwnS.nil_ _ _, OwnI.nil_ _ _, hE, by omega, by simp, fun g e => by cases e⟩
theorem OutD.pushed {B0 B' bp : Nat} {x x3 : World} {v v3 : Value} {L : List DV} {d : Decl} {ra na : Option Addr} {rc nc : Nat} {o : Obj} (h : OutD B0 x v L) (hO : OwnS B' x (.slice ra d.refs.length rc) d.refs) (hI : OwnI B' x (.slice na d.nums.length nc) d.nums) (hB : B0 ≤ B')
    (hz : d.name.size ≤ 16384 ∧ ∀ r ∈ d.refs, r.size ≤ 16384)
    (h3 : x3.ownsRow B0 38 6 v3 (L ++ [((d, .slice ra d.refs.length rc, .slice na d.nums.length nc) : DV)]).length ((L ++ [((d, .slice ra d.refs.length rc, .slice na d.nums.length nc) : DV)]).flatMap cellsD)) (hg : (x.alloc o).grownBy x3 v.ownBlock) (_ : bp < B0) :
    OutD B0 x3 v3 (L ++ [(d, .slice ra d.refs.length rc, .slice na d.nums.length nc)]) := by
  have hv := World.ownsRow.alloc h.1 o
  refine ⟨h3, fun y hy => ?_⟩
  rcases List.mem_append.1 hy with hy | hy
  · obtain ⟨k1, k2, k3⟩ := h.2 y hy
    have a1 := OwnS.alloc k1 o
    have a2 := OwnI.alloc k2 o
    exact ⟨a1.kept hg (own_types a1 hv (by decide)), a2.kept hg (own_types a2 hv (by decide)), k3⟩
  · rw [List.mem_singleton.1 hy]
    have a1 := OwnS.alloc (show OwnS B0 x _ _ from own_lower hO hB) o
    have a2 := OwnI.alloc (show OwnI B0 x _ _ from own_lower hI hB) o
    exact ⟨a1.kept hg (own_types a1 hv (by decide)), a2.kept hg (own_types a2 hv (by decide)), hz⟩
theorem newD (x : World) (d : Decl) (ra na : Option Addr) (rc nc : Nat) {b : Nat} (hb : b = x.heap.size) : Reads (x.alloc (.cells #[.int .i64 d.kind, .string d.name, .slice ra d.refs.length rc, .slice na d.nums.length nc, .int .i64 d.by_, .bool d.always] 38)) (x.heap.size + 1) 6 (some ⟨b, 0, none⟩) 1 ([((d, .slice ra d.refs.length rc, .slice na d.nums.length nc) : DV)].flatMap cellsD) := by
  subst hb
  exact Reads.newRow x #[.int .i64 d.kind, .string d.name, .slice ra d.refs.length rc, .slice na d.nums.length nc, .int .i64 d.by_, .bool d.always] 38 1 6 rfl
theorem field_pos (a : Int) (x : ByteArray) (n q : Int) (W : World) : (Instr.field 33 (.agg #[.int .i64 a, .string x, .int .i64 n, .int .i64 q]) 3).run Tryd.prog W = .ok (.int .i64 q) W := by kernel_rfl
theorem beyond_ne (s : PS) : s.beyond ≠ 0 := by unfold PS.beyond; split <;> decide

set_option maxRecDepth 100000 in
set_option maxHeartbeats 16000000 in
theorem parse_any (s : ByteArray) (w : World) (ha : Asc w) (hs : s.size ≤ 9223372036854775807) : Calls Tryd.prog 11 #[.string s] w (ParseP (parseT s) w) := by
  have HSC := hide (scan_any s w ha hs)
  have hshort := scan_short (s := s)
  clear ha hs
  by_cases her : (scanT s).2.2 = 0
  rotate_left
  · have HT := hide (show parseT s = ([], (scanT s).2.1, (scanT s).2.2) by unfold parseT; rw [if_pos her])
    generalize scanT s = r at HSC HT her
    obtain ⟨L, p, er⟩ := r
    simp only at her HT
    have b0 : ((er : Int) != 0) = true := by simpa using her
    clear her hshort
    go_enter Tryd.func11, Tryd.ntmps11
    go_wp2_with (go_at_call 26; refine HSC.out.mono ?_; rintro e x1 ⟨A, c, rfl, hc, hT, hb1⟩)
    go_ret3
    rw [HT.out]
    exact parseP_no _ _ hb1
  · obtain ⟨hE, hlen, hts⟩ := hshort her
    have HT := hide (show parseT s = parseGo ((scanT s).1.length + 1) [] ⟨(scanT s).1, 0, zeroD⟩ by unfold parseT; rw [if_neg (by simp [her])])
    generalize scanT s = r at HSC HT her hE hlen hts
    obtain ⟨L, p, er⟩ := r
    simp only at her HT hE hlen hts
    subst her
    have hts0 : TS 16384 ⟨L, 0, zeroD⟩ := ⟨hts, Nat.zero_le _, fun r hr => absurd hr (by simp [zeroD])⟩
    clear hts
    go_enter Tryd.func11, Tryd.ntmps11
    go_wp2_with (go_at_call 26; refine HSC.out.mono ?_; rintro e x1 ⟨A, c, rfl, hc, hT, hb1⟩)
    have hT2 : ∃ b off, A = some ⟨b, off, none⟩ ∧ b < x1.heap.size := by
      obtain ⟨b, off, e, hb, _⟩ := hT.at_ (j := 0) (List.length_pos_iff.2 hE.ne)
      exact ⟨b, off, e, hb⟩
    obtain ⟨b, off, rfl, hb⟩ := hT2
    have hS0 := PSt.new hT hb hc hE
    go_loopw [9] (fun v wr => ∃ (f B : Nat) (M : List DV) (st : PS), PSt wr x1.heap.size B st ∧ x1.heap.size < B ∧ OutD (x1.heap.size + 1) wr v M ∧ Below x1.heap.size x1 wr ∧ st.e = 0 ∧ st.toks.length < f ∧ st.toks.length ≤ 16385 ∧ TS 16384 st ∧ M.length ≤ 1024 ∧ Hid (parseT s = parseGo f (M.map (·.1)) st)) (fun v _ => 1025 - lenV v)
    case atStart => exact ⟨L.length + 1, _, [], _, hS0, by omega, OutD.nil_ _ _, (Below.refl _ _).alloc (Nat.le_refl _) _, rfl, by simp, hlen, hts0, by simp, HT⟩
    case round =>
      clear hS0 hts0 HT HSC hT hE hlen
      obtain ⟨f, B, M, st, hst, hBb, hout, hB, he, hf, hlen, hts, hM, HG⟩ := hrel
      obtain ⟨f', rfl⟩ : ∃ f', f = f' + 1 := ⟨f - 1, by omega⟩
      have hgo := HG.out
      rw [parseGo] at hgo
      have HN := hide (next_st wr hst)
      have hfk := field_kind st.next.kind st.next.text st.next.n st.next.pos
      obtain ⟨A9, c9, rfl, hc9⟩ := hout.form
      clear HG
      by_cases hk : st.next.kind = 0
      · rw [if_pos hk] at hgo
        have HE := hide hgo
        have b0 : ((st.next.kind : Int) != 0) = false := by simp [hk]
        clear hgo hk
        go_wp2_with (go_at_call 27; refine HN.out.mono ?_; rintro e2 z ⟨rfl, hz⟩)
        go_ret3
        rw [HE.out]
        have ho := hout.below hz
        exact ⟨A9, c9, M, rfl, rfl, hc9, ho.row, hb1.trans ((hB.trans (hz.mono hB.size)).mono hb1.size)⟩
      · rw [if_neg hk] at hgo
        have b0 : ((st.next.kind : Int) != 0) = true := by simpa using hk
        clear hk
        have hbw : x1.heap.size < wr.heap.size := (hst.cells).2.2.2.2.2.1
        by_cases hfull : M.length = 1024
        · have hMl : (M.map (·.1)).length = 1024 := by rw [List.length_map]; exact hfull
          have hgo2 := hgo
          simp only at hgo2
          rw [if_pos hMl] at hgo2
          have hfe : (st.fail st.beyond).e ≠ 0 := fail_ne st (beyond_ne st)
          simp only at hgo2
          rw [if_pos hfe] at hgo2
          have HE := hide hgo2
          have b1 : ((M.length : Int) == 1024) = true := by simp [hfull]
          have b2 : (((st.fail st.beyond).e : Int) != 0) = true := by simpa using hfe
          have HBY := fun (W : World) (h : PSt W x1.heap.size B st) => beyond_st W h
          have HBY := hide HBY
          generalize hst2 : st.fail st.beyond = st2 at HE b2 hfe
          clear hgo hgo2 hfull hMl hfe
          go_wp2_with (first
            | (go_at_call 27; refine HN.out.mono ?_; rintro e2 z ⟨rfl, hz⟩; have hsz := hst.below hz)
            | (go_at_call 29; refine (HBY.out z hsz).mono ?_; rintro e3 y ⟨rfl, hy⟩; have hsy := hsz.below hy)
            | (go_at_call 28; refine (fail_sb st.beyond y hsy).mono ?_; rw [hst2]; rintro e4 x ⟨⟨rfl, hx, _⟩, hbb⟩; have x1c := hx.cells.1; have xz := hx.cells.2.2.2.2.2.1))
          have hBx : Below x1.heap.size x1 x := hB.trans (((hz.mono hB.size).trans (hy.mono (Nat.le_trans hB.size hz.size))).trans (But.below hbb (Nat.le_of_lt (hsy.cells.2.2.2.2.2.1))))
          have hfp := field_pos st2.next.kind st2.next.text st2.next.n st2.next.pos
          go_region_held3 (fun W => W.cell? ⟨x1.heap.size, 1, none⟩ = some (.int .i64 st2.e) ∧ PSt W x1.heap.size B st2 ∧ Below x.heap.size x W) ((refine ⟨?_, ?_, ?_⟩ <;> (first | assumption | exact x1c | exact PSt.drew hx | exact (Below.refl _ _).drew)))
            ((go_at_call 27; have hH := (by assumption : _ ∧ PSt _ _ _ _ ∧ _); obtain ⟨a0, a1, a2⟩ := hH; refine (next_st _ a1).mono ?_; rintro e5 q ⟨rfl, hq⟩; have c0 := (hq.cell (p := ⟨x1.heap.size, 1, none⟩) a1.cells.2.2.2.2.2.1).trans a0; have c1 := a1.below hq; have c2 := a2.trans (hq.mono a2.size); clear a0 a1 a2 hq))
          all_goals
            go_wp2_with fail
            go_ret3
            rw [HE.out]
            exact parseP_no _ _ (hb1.trans ((hBx.trans (c2.mono hBx.size)).mono hb1.size))
        · have hMl : (M.map (·.1)).length ≠ 1024 := by rw [List.length_map]; exact hfull
          simp only at hgo
          rw [if_neg hMl] at hgo
          simp only at hgo
          have b1 : ((M.length : Int) == 1024) = false := by simp; omega
          have hM2 : M.length + 1 ≤ 1024 := by omega
          have HD := fun (W : World) (h : PSt W x1.heap.size B st) => decl_st W h (by omega)
          have hz9 := (decl_ts hts).2
          have hts2 := (decl_ts hts).1
          have hless := decl_less (s := st)
          have hlen2 : st.decl.2.toks.length ≤ 16385 := by
            obtain ⟨⟨k, e⟩, _⟩ := decl_aft st
            rw [e, List.length_drop]; omega
          clear hMl hfull
          generalize st.decl = dd at HD hgo hz9 hts2 hless hlen2
          obtain ⟨d1, st2⟩ := dd
          simp only at HD hgo hz9 hts2 hless hlen2
          have HD := hide HD
          have HZ := hide hz9
          clear hz9
          by_cases hde : st2.e = 0
          · rw [if_neg (by simp [hde])] at hgo
            have HE := hide hgo
            have b2 : ((st2.e : Int) != 0) = false := by simp [hde]
            have hless := hless hde
            clear hgo
            go_wp2_with (first
              | (go_at_call 27; refine HN.out.mono ?_; rintro e2 z ⟨rfl, hz⟩; have hsz := hst.below hz; have hoz := hout.below hz; have hzw := Nat.lt_of_lt_of_le hbw hz.size)
              | (go_at_call 30; refine (HD.out z hsz).mono ?_; rintro e3 x ⟨B', rv, nv, rfl, hd, hBB, hO, hI, hbb⟩
                 obtain ⟨ra, rc, rfl, _, _⟩ := hO.form3
                 obtain ⟨na, nc, rfl, _, _⟩ := hI.form
                 have hox := hoz.but hbb (Nat.lt_succ_self _)
                 have hzx := hbb.size)
              | (at_builtin; refine append_decls rfl _ _ rfl (x1.heap.size + 1) _ M rfl (World.ownsRow.alloc hox.1 _) _ _ 1 [(d1, .slice ra d1.refs.length rc, .slice na d1.nums.length nc)] rfl (newD x d1 ra na rc nc rfl) (by intro y hy; rw [List.mem_singleton.1 hy]; exact ⟨rfl, rfl⟩) (by simp; omega) (by simp; omega) ?_; intro v3 x3 hO3 hg3 _
                 have ho3 := OutD.pushed (bp := x1.heap.size) hox hO hI (by omega) HZ.out hO3 hg3 (Nat.lt_succ_self _)
                 have hda := (PSt.alloc_ hd (.cells #[.int .i64 d1.kind, .string d1.name, .slice ra d1.refs.length rc, .slice na d1.nums.length nc, .int .i64 d1.by_, .bool d1.always] 38) (i := 0)).1
                 have hx := PSt.grownD hda (World.ownsRow.alloc hox.1 _) (Nat.lt_succ_self _) hg3
                 have x1c := hx.cells.1
                 have xz := hx.cells.2.2.2.2.2.1
                 have hBx : Below x1.heap.size x1 x3 := (hB.trans ((hz.mono hB.size).trans ((But.below hbb (Nat.le_of_lt hzw)).trans ((Below.refl _ _).alloc (by omega) _)))).grown hg3 (by simp; omega) (fun k hk => by have := World.ownsRow.lt hox.1 _ hk; omega)))
            go_roundw
            case rel => exact ⟨f', B', M ++ [(d1, .slice ra d1.refs.length rc, .slice na d1.nums.length nc)], st2, hx, by omega, ho3, hBx, hde, by omega, hlen2, hts2, by simp; omega, hide (by rw [HE.out]; simp)⟩
            case measure =>
              obtain ⟨A7, c7, rfl, _⟩ := ho3.form
              simp [lenV]; omega
          · rw [if_pos hde] at hgo
            have HE := hide hgo
            have b2 : ((st2.e : Int) != 0) = true := by simpa using hde
            clear hgo hless hde
            go_wp2_with (first
              | (go_at_call 27; refine HN.out.mono ?_; rintro e2 z ⟨rfl, hz⟩; have hsz := hst.below hz; have hoz := hout.below hz; have hzw := Nat.lt_of_lt_of_le hbw hz.size)
              | (go_at_call 30; refine (HD.out z hsz).mono ?_; rintro e3 x ⟨B', rv, nv, rfl, hd, hBB, hO, hI, hbb⟩
                 obtain ⟨ra, rc, rfl, _, _⟩ := hO.form3
                 obtain ⟨na, nc, rfl, _, _⟩ := hI.form
                 have hox := hoz.but hbb (Nat.lt_succ_self _)
                 have hzx := hbb.size)
              | (at_builtin; refine append_decls rfl _ _ rfl (x1.heap.size + 1) _ M rfl (World.ownsRow.alloc hox.1 _) _ _ 1 [(d1, .slice ra d1.refs.length rc, .slice na d1.nums.length nc)] rfl (newD x d1 ra na rc nc rfl) (by intro y hy; rw [List.mem_singleton.1 hy]; exact ⟨rfl, rfl⟩) (by simp; omega) (by simp; omega) ?_; intro v3 x3 hO3 hg3 _
                 have ho3 := OutD.pushed (bp := x1.heap.size) hox hO hI (by omega) HZ.out hO3 hg3 (Nat.lt_succ_self _)
                 have hda := (PSt.alloc_ hd (.cells #[.int .i64 d1.kind, .string d1.name, .slice ra d1.refs.length rc, .slice na d1.nums.length nc, .int .i64 d1.by_, .bool d1.always] 38) (i := 0)).1
                 have hx := PSt.grownD hda (World.ownsRow.alloc hox.1 _) (Nat.lt_succ_self _) hg3
                 have x1c := hx.cells.1
                 have xz := hx.cells.2.2.2.2.2.1
                 have hBx : Below x1.heap.size x1 x3 := (hB.trans ((hz.mono hB.size).trans ((But.below hbb (Nat.le_of_lt hzw)).trans ((Below.refl _ _).alloc (by omega) _)))).grown hg3 (by simp; omega) (fun k hk => by have := World.ownsRow.lt hox.1 _ hk; omega)))
            have hfp := field_pos st2.next.kind st2.next.text st2.next.n st2.next.pos
            go_region_held3 (fun W => W.cell? ⟨x1.heap.size, 1, none⟩ = some (.int .i64 st2.e) ∧ PSt W x1.heap.size B' st2 ∧ Below x3.heap.size x3 W) ((refine ⟨?_, ?_, ?_⟩ <;> (first | assumption | exact x1c | exact PSt.drew hx | exact (Below.refl _ _).drew)))
              ((go_at_call 27; have hH := (by assumption : _ ∧ PSt _ _ _ _ ∧ _); obtain ⟨a0, a1, a2⟩ := hH; refine (next_st _ a1).mono ?_; rintro e5 q ⟨rfl, hq⟩; have c0 := (hq.cell (p := ⟨x1.heap.size, 1, none⟩) a1.cells.2.2.2.2.2.1).trans a0; have c1 := a1.below hq; have c2 := a2.trans (hq.mono a2.size); clear a0 a1 a2 hq))
            all_goals
              go_wp2_with fail
              go_ret3
              rw [HE.out]
              exact parseP_no _ _ (hb1.trans ((hBx.trans (c2.mono hBx.size)).mono hb1.size))
end Go.Proofs.YtanhkeeifnimgaaDoor

namespace Go.Proofs.YtanhkeeifnimgaaDoor
open Go Go.RowKit Go.Proofs

/-- what Decl answers -/
def DeclQ (r : Decl × Int × Int) (w : World) (e : Ending) (w' : World) : Prop :=
  ∃ ra rc na nc, e = .returned (.tuple #[.agg #[.int .i64 r.1.kind, .string r.1.name, .slice ra r.1.refs.length rc, .slice na r.1.nums.length nc, .int .i64 r.1.by_, .bool r.1.always], .int .i64 r.2.1, .int .i64 r.2.2]) ∧
    r.1.refs.length ≤ rc ∧ r.1.nums.length ≤ nc ∧ Strs w' w'.heap.size ra r.1.refs ∧ Ints w' w'.heap.size na r.1.nums ∧ Fine r.1 ∧ Below w.heap.size w w'
theorem declQ_no {w w' : World} (p e : Int) (h : Below w.heap.size w w') : DeclQ (zeroD, p, e) w (.returned (.tuple #[.agg #[.int .i64 0, .string ⟨#[]⟩, .slice none 0 0, .slice none 0 0, .int .i64 0, .bool false], .int .i64 p, .int .i64 e])) w' :=
  ⟨none, 0, none, 0, rfl, Nat.le_refl _, Nat.le_refl _, Reads.none_, Reads.none_, ⟨Nat.zero_le _, fun s hs => absurd hs (by simp [zeroD]), Nat.zero_le _, Nat.zero_le _⟩, h⟩
abbrev zero6 : Array Value := #[.int .i64 0, .string ⟨#[]⟩, .slice none 0 0, .slice none 0 0, .int .i64 0, .bool false]
theorem Blk.six {w : World} {L : Nat} {T : TypeId} {a0 a1 a2 a3 a4 a5 v0 v1 v2 v3 v4 v5 : Value} (h : Blk w L T #[a0, a1, a2, a3, a4, a5]) :
    Blk ((((((w.setCell ⟨L, 0, none⟩ v0).setCell ⟨L, 1, none⟩ v1).setCell ⟨L, 2, none⟩ v2).setCell ⟨L, 3, none⟩ v3).setCell ⟨L, 4, none⟩ v4).setCell ⟨L, 5, none⟩ v5) L T #[v0, v1, v2, v3, v4, v5] :=
  Blk.set_ (Blk.set_ (Blk.set_ (Blk.set_ (Blk.set_ (Blk.set_ h 0 v0) 1 v1) 2 v2) 3 v3) 4 v4) 5 v5
theorem PSt.zero6 {w : World} {bp B L : Nat} {s : PS} (h : PSt w bp B s) (hL : Blk w L 38 zero6) (hne : L ≠ bp) :
    PSt ((((((w.setCell ⟨L, 0, none⟩ (.int .i64 0)).setCell ⟨L, 1, none⟩ (.string ⟨#[]⟩)).setCell ⟨L, 2, none⟩ (.slice none 0 0)).setCell ⟨L, 3, none⟩ (.slice none 0 0)).setCell ⟨L, 4, none⟩ (.int .i64 0)).setCell ⟨L, 5, none⟩ (.bool false)) bp B s ∧
    ((((((w.setCell ⟨L, 0, none⟩ (.int .i64 0)).setCell ⟨L, 1, none⟩ (.string ⟨#[]⟩)).setCell ⟨L, 2, none⟩ (.slice none 0 0)).setCell ⟨L, 3, none⟩ (.slice none 0 0)).setCell ⟨L, 4, none⟩ (.int .i64 0)).setCell ⟨L, 5, none⟩ (.bool false)).cell? ⟨bp, 1, none⟩ = some (.int .i64 s.e) := by
  obtain ⟨rv, nv, q4, q5, _⟩ := h.rows
  have h2 := (PSt.butD h q4 q5 hL hne (But.set6 w (.int .i64 0) (.string ⟨#[]⟩) (.slice none 0 0) (.slice none 0 0) (.int .i64 0) (.bool false))).1
  exact ⟨h2, h2.cells.1⟩

theorem results_decl {tmps : Array Value} {W : World} {R : Nat} {v0 v1 v2 v3 v4 v5 p e : Value} (h2 : tmps.getD 2 undef = .pointer (some ⟨R, 0, none⟩)) (h3 : tmps.getD 3 undef = p) (h4 : tmps.getD 4 undef = e)
    (r0 : W.cell? ⟨R, 0, none⟩ = some v0) (r1 : W.cell? ⟨R, 1, none⟩ = some v1) (r2 : W.cell? ⟨R, 2, none⟩ = some v2) (r3 : W.cell? ⟨R, 3, none⟩ = some v3) (r4 : W.cell? ⟨R, 4, none⟩ = some v4) (r5 : W.cell? ⟨R, 5, none⟩ = some v5) :
    (results Tryd.f25 tmps).run Tryd.prog W = .ok (.tuple #[.agg #[v0, v1, v2, v3, v4, v5], p, e]) W := by
  simp only [Array.getD_eq_getD_getElem?] at h2 h3 h4
  simp [results, Tryd.results25, go_sem, *]
set_option maxRecDepth 100000 in
set_option maxHeartbeats 16000000 in
theorem parserDecl_any (s : ByteArray) (w : World) (ha : Asc w) (hs : s.size ≤ 9223372036854775807) : Calls Tryd.prog 25 #[.string s] w (DeclQ (parseD s) w) := by
  have hw1 : Below w.heap.size w (w.alloc (.cells zero6 38)) := (Below.refl _ _).alloc (Nat.le_refl _) _
  have hR := Blk.new w 38 zero6
  have HSC := hide (scan_any s _ (Asc.below ha (Nat.le_refl _) hw1) hs)
  have hshort := scan_short (s := s)
  have H1 := hide (And.intro hw1 hR)
  clear ha hs hw1 hR
  by_cases her : (scanT s).2.2 = 0
  rotate_left
  · have HT := hide (show parseD s = (zeroD, (scanT s).2.1, (scanT s).2.2) by unfold parseD; rw [if_pos her])
    generalize scanT s = r at HSC HT her
    obtain ⟨L, p, er⟩ := r
    simp only at her HT
    have b0 : ((er : Int) != 0) = true := by simpa using her
    clear her hshort
    go_enter Tryd.func25, Tryd.ntmps25
    go_wp2_with (go_at_call 26; refine HSC.out.mono ?_; rintro e x1 ⟨A, c, rfl, hc, hT, hb1⟩
                 have hRx := Blk.below H1.out.2 hb1 (by simp)
                 have r0 := hRx.cell 0
                 have r1 := hRx.cell 1
                 have r2 := hRx.cell 2
                 have r3 := hRx.cell 3
                 have r4 := hRx.cell 4
                 have r5 := hRx.cell 5
                 have f0 := hRx.frozen 0
                 have f1 := hRx.frozen 1
                 have f2 := hRx.frozen 2
                 have f3 := hRx.frozen 3
                 have f4 := hRx.frozen 4
                 have f5 := hRx.frozen 5
                 have rz := Blk.lt hRx
                 simp at r0 r1 r2 r3 r4 r5)
    refine bodyPost_ret (v := .tuple #[.agg zero6, .int .i64 p, .int .i64 er]) (by simp [results, Tryd.results25, go_sem, *]) rfl ?_
    rw [HT.out]
    refine declQ_no p er ?_
    exact (H1.out.1.trans (hb1.mono (by simp))).trans (But.below (But.set6 (L := w.heap.size) (B := w.heap.size) x1 _ _ _ _ _ _) (Nat.le_refl _))
  · obtain ⟨hE, hlen, hts⟩ := hshort her
    have HT := hide (show parseD s = (let r := PS.decl ⟨(scanT s).1, 0, zeroD⟩; let s2 := if r.2.next.kind ≠ 0 then r.2.fail 3 else r.2; if s2.e ≠ 0 then (zeroD, s2.next.pos, s2.e) else (r.1, 0, 0)) by unfold parseD; rw [if_neg (by simp [her])])
    generalize scanT s = r at HSC HT her hE hlen hts
    obtain ⟨L, p, er⟩ := r
    simp only at her HT hE hlen hts
    subst her
    have hts0 : TS 16384 ⟨L, 0, zeroD⟩ := ⟨hts, Nat.zero_le _, fun r hr => absurd hr (by simp [zeroD])⟩
    have HD : ∀ (W : World) (bp B : Nat), PSt W bp B ⟨L, 0, zeroD⟩ → Calls Tryd.prog 30 #[.pointer (some ⟨bp, 0, none⟩)] W (DeclP bp B (PS.decl ⟨L, 0, zeroD⟩).1 (PS.decl ⟨L, 0, zeroD⟩).2 W) := fun W bp B h => decl_st W h (by show L.length ≤ _; omega)
    have HZ := hide (decl_ts hts0).2
    clear hts hts0 hlen
    generalize PS.decl ⟨L, 0, zeroD⟩ = dd at HD HT HZ
    obtain ⟨d1, s1⟩ := dd
    simp only at HD HT HZ
    have HD := hide HD
    have key : ∃ (q : Bool) (s2 : PS), (((s1.next.kind : Int) != 0) = q) ∧ s2 = (if q then s1.fail 3 else s1) ∧ Hid (parseD s = if s2.e ≠ 0 then (zeroD, s2.next.pos, s2.e) else (d1, 0, 0)) := by
      refine ⟨_, _, rfl, rfl, hide (HT.out.trans ?_)⟩
      by_cases h : s1.next.kind = 0
      · have hb : ((s1.next.kind : Int) != 0) = false := by simp [h]
        simp only [hb]; simp [h]
      · have hb : ((s1.next.kind : Int) != 0) = true := by simpa using h
        simp only [hb]; simp [h]
    obtain ⟨q, s2, hq, hs2, HE⟩ := key
    have hfk := field_kind s1.next.kind s1.next.text s1.next.n s1.next.pos
    clear HT
    have go : ∀ (g : Bool), ((s2.e : Int) != 0) = g → Calls Tryd.prog 25 #[.string s] w (DeclQ (parseD s) w) := by
      intro g hg
      rcases q with _ | _ <;> rcases g with _ | _
      · have HE := hide (HE.out.trans (if_neg (by simpa using hg)))
        have bq : ((s1.next.kind : Int) != 0) = false := hq
        have bg : ((s2.e : Int) != 0) = false := hg
        have HS2 := hide (show s2 = s1 by rw [hs2]; rfl)
        clear hs2
        clear hq hg
        go_enter Tryd.func25, Tryd.ntmps25
        go_wp2_with (first
          | (go_at_call 26; refine HSC.out.mono ?_; rintro e x1 ⟨A, c, rfl, hc, hT, hb1⟩
             have hT2 : ∃ b off, A = some ⟨b, off, none⟩ ∧ b < x1.heap.size := by
               obtain ⟨b, off, e, hb, _⟩ := hT.at_ (j := 0) (List.length_pos_iff.2 hE.ne)
               exact ⟨b, off, e, hb⟩
             obtain ⟨b, off, rfl, hb⟩ := hT2
             have hS0 := PSt.new hT hb hc hE
             have hRx := Blk.below H1.out.2 hb1 (by simp)
             have hRz := Blk.lt hRx)
          | (go_at_call 30; refine (HD.out _ _ _ hS0).mono ?_; rintro e3 x ⟨B', rv, nv, rfl, hd, hBB, hO, hI, hbb⟩
             obtain ⟨ra, rc, rfl, hra, hrs⟩ := hO.form3
             obtain ⟨na, nc, rfl, hna, hns⟩ := hI.form
             have hRq := But.blk hbb (Blk.alloc hRx _) (by simp; omega) (by omega)
             have hdz := Blk.lt hRq
             have hxz := hd.cells.2.2.2.2.2.1
             have hBx : Below w.heap.size w x := (H1.out.1.trans ((hb1.mono (by simp)).trans ((Below.refl _ _).alloc (by omega) _))).trans ((But.below hbb (by simp)).mono (by omega)))
          | (go_at_call 27; refine (next_st _ (PSt.alloc_ hd (.cells #[.int .i64 d1.kind, .string d1.name, .slice ra d1.refs.length rc, .slice na d1.nums.length nc, .int .i64 d1.by_, .bool d1.always] 38) (i := 0)).1).mono ?_; rintro e4 y ⟨rfl, hy⟩
             have hsy := (PSt.alloc_ hd (.cells #[.int .i64 d1.kind, .string d1.name, .slice ra d1.refs.length rc, .slice na d1.nums.length nc, .int .i64 d1.by_, .bool d1.always] 38) (i := 0)).1.below hy
             have hRy := Blk.bw (Blk.alloc hRq (.cells #[.int .i64 d1.kind, .string d1.name, .slice ra d1.refs.length rc, .slice na d1.nums.length nc, .int .i64 d1.by_, .bool d1.always] 38)) hy
             have hDy := Blk.bw (Blk.new x 38 #[.int .i64 d1.kind, .string d1.name, .slice ra d1.refs.length rc, .slice na d1.nums.length nc, .int .i64 d1.by_, .bool d1.always]) hy
             have hOy := (hO.alloc (.cells #[.int .i64 d1.kind, .string d1.name, .slice ra d1.refs.length rc, .slice na d1.nums.length nc, .int .i64 d1.by_, .bool d1.always] 38)).below hy
             have hIy := (hI.alloc (.cells #[.int .i64 d1.kind, .string d1.name, .slice ra d1.refs.length rc, .slice na d1.nums.length nc, .int .i64 d1.by_, .bool d1.always] 38)).below hy
             have hBy : Below w.heap.size w y := (hBx.alloc hBx.size (.cells #[.int .i64 d1.kind, .string d1.name, .slice ra d1.refs.length rc, .slice na d1.nums.length nc, .int .i64 d1.by_, .bool d1.always] 38)).trans (hy.mono (Nat.le_trans hBx.size (by simp)))
             have hV := hsy
             rw [← HS2.out] at hV
             have hRV := hRy
             have hDV := hDy
             have hOV := hOy
             have hIV := hIy
             have hBV := hBy
             have hcV := hV.cells
             have v1 := hcV.1
             have vz := hcV.2.2.2.2.2.1
             have r0 := hRV.cell 0
             have r1 := hRV.cell 1
             have r2 := hRV.cell 2
             have r3 := hRV.cell 3
             have r4 := hRV.cell 4
             have r5 := hRV.cell 5
             have f0 := hRV.frozen 0
             have f1 := hRV.frozen 1
             have f2 := hRV.frozen 2
             have f3 := hRV.frozen 3
             have f4 := hRV.frozen 4
             have f5 := hRV.frozen 5
             have rz := Blk.lt hRV
             have t0 := hDV.cell 0
             have t1 := hDV.cell 1
             have t2 := hDV.cell 2
             have t3 := hDV.cell 3
             have t4 := hDV.cell 4
             have t5 := hDV.cell 5
             simp at r0 r1 r2 r3 r4 r5 t0 t1 t2 t3 t4 t5
             clear hcV))
        (try simp only [Exit.inBlock, Exit.then])
        refine bodyPost_ret (v := .tuple #[.agg #[.int .i64 d1.kind, .string d1.name, .slice ra d1.refs.length rc, .slice na d1.nums.length nc, .int .i64 d1.by_, .bool d1.always], .int .i64 0, .int .i64 0]) (by simp [results, Tryd.results25, go_sem, *]) rfl ?_
        rw [HE.out]
        have h7 := But.set6 (L := w.heap.size) (B := y.heap.size) y (.int .i64 d1.kind) (.string d1.name) (.slice ra d1.refs.length rc) (.slice na d1.nums.length nc) (.int .i64 d1.by_) (.bool d1.always)
        have k1 := OwnS.but hOV h7 (by have := hd.bp_lt; omega)
        have k2 := OwnI.but hIV h7 (by have := hd.bp_lt; omega)
        obtain ⟨rb, rd, e1, g1, g2⟩ := k1.form3
        obtain ⟨nb, nd, e2, g3, g4⟩ := k2.form
        obtain ⟨rfl, rfl⟩ : ra = rb ∧ rc = rd := by injection e1 with a b c; exact ⟨a, c⟩
        obtain ⟨rfl, rfl⟩ : na = nb ∧ nc = nd := by injection e2 with a b c; exact ⟨a, c⟩
        exact ⟨ra, rc, na, nc, rfl, g1, g3, g2, g4, ⟨by have := HZ.out.1; simp only; omega, fun s hs => by have := HZ.out.2 s hs; omega, own_max k1, own_max k2⟩, hBV.trans (But.below (h7.mono (Nat.le_of_lt rz)) (Nat.le_refl _))⟩
      · have HE := hide (HE.out.trans (if_pos (by simpa using hg)))
        have bq : ((s1.next.kind : Int) != 0) = false := hq
        have bg : ((s2.e : Int) != 0) = true := hg
        have HS2 := hide (show s2 = s1 by rw [hs2]; rfl)
        clear hs2
        clear hq hg
        go_enter Tryd.func25, Tryd.ntmps25
        go_wp2_with (first
          | (go_at_call 26; refine HSC.out.mono ?_; rintro e x1 ⟨A, c, rfl, hc, hT, hb1⟩
             have hT2 : ∃ b off, A = some ⟨b, off, none⟩ ∧ b < x1.heap.size := by
               obtain ⟨b, off, e, hb, _⟩ := hT.at_ (j := 0) (List.length_pos_iff.2 hE.ne)
               exact ⟨b, off, e, hb⟩
             obtain ⟨b, off, rfl, hb⟩ := hT2
             have hS0 := PSt.new hT hb hc hE
             have hRx := Blk.below H1.out.2 hb1 (by simp)
             have hRz := Blk.lt hRx)
          | (go_at_call 30; refine (HD.out _ _ _ hS0).mono ?_; rintro e3 x ⟨B', rv, nv, rfl, hd, hBB, hO, hI, hbb⟩
             obtain ⟨ra, rc, rfl, hra, hrs⟩ := hO.form3
             obtain ⟨na, nc, rfl, hna, hns⟩ := hI.form
             have hRq := But.blk hbb (Blk.alloc hRx _) (by simp; omega) (by omega)
             have hdz := Blk.lt hRq
             have hxz := hd.cells.2.2.2.2.2.1
             have hBx : Below w.heap.size w x := (H1.out.1.trans ((hb1.mono (by simp)).trans ((Below.refl _ _).alloc (by omega) _))).trans ((But.below hbb (by simp)).mono (by omega)))
          | (go_at_call 27; refine (next_st _ (PSt.alloc_ hd (.cells #[.int .i64 d1.kind, .string d1.name, .slice ra d1.refs.length rc, .slice na d1.nums.length nc, .int .i64 d1.by_, .bool d1.always] 38) (i := 0)).1).mono ?_; rintro e4 y ⟨rfl, hy⟩
             have hsy := (PSt.alloc_ hd (.cells #[.int .i64 d1.kind, .string d1.name, .slice ra d1.refs.length rc, .slice na d1.nums.length nc, .int .i64 d1.by_, .bool d1.always] 38) (i := 0)).1.below hy
             have hRy := Blk.bw (Blk.alloc hRq (.cells #[.int .i64 d1.kind, .string d1.name, .slice ra d1.refs.length rc, .slice na d1.nums.length nc, .int .i64 d1.by_, .bool d1.always] 38)) hy
             have hDy := Blk.bw (Blk.new x 38 #[.int .i64 d1.kind, .string d1.name, .slice ra d1.refs.length rc, .slice na d1.nums.length nc, .int .i64 d1.by_, .bool d1.always]) hy
             have hOy := (hO.alloc (.cells #[.int .i64 d1.kind, .string d1.name, .slice ra d1.refs.length rc, .slice na d1.nums.length nc, .int .i64 d1.by_, .bool d1.always] 38)).below hy
             have hIy := (hI.alloc (.cells #[.int .i64 d1.kind, .string d1.name, .slice ra d1.refs.length rc, .slice na d1.nums.length nc, .int .i64 d1.by_, .bool d1.always] 38)).below hy
             have hBy : Below w.heap.size w y := (hBx.alloc hBx.size (.cells #[.int .i64 d1.kind, .string d1.name, .slice ra d1.refs.length rc, .slice na d1.nums.length nc, .int .i64 d1.by_, .bool d1.always] 38)).trans (hy.mono (Nat.le_trans hBx.size (by simp)))
             have hV := hsy
             rw [← HS2.out] at hV
             have hRV := hRy
             have hDV := hDy
             have hOV := hOy
             have hIV := hIy
             have hBV := hBy
             have hcV := hV.cells
             have v1 := hcV.1
             have vz := hcV.2.2.2.2.2.1
             have r0 := hRV.cell 0
             have r1 := hRV.cell 1
             have r2 := hRV.cell 2
             have r3 := hRV.cell 3
             have r4 := hRV.cell 4
             have r5 := hRV.cell 5
             have f0 := hRV.frozen 0
             have f1 := hRV.frozen 1
             have f2 := hRV.frozen 2
             have f3 := hRV.frozen 3
             have f4 := hRV.frozen 4
             have f5 := hRV.frozen 5
             have rz := Blk.lt hRV
             have t0 := hDV.cell 0
             have t1 := hDV.cell 1
             have t2 := hDV.cell 2
             have t3 := hDV.cell 3
             have t4 := hDV.cell 4
             have t5 := hDV.cell 5
             simp at r0 r1 r2 r3 r4 r5 t0 t1 t2 t3 t4 t5
             clear hcV))
        have hfp := field_pos s2.next.kind s2.next.text s2.next.n s2.next.pos
        have hRn : w.heap.size ≠ x1.heap.size := by omega
        have hV9 := PSt.drew hV
        have hR9 := Blk.drew hRV
        have hB9 := hBV.drew
        have v9 : y.drew.cell? ⟨x1.heap.size, 1, none⟩ = some (.int .i64 s2.e) := v1
        go_region_held3 (fun W => W.cell? ⟨x1.heap.size, 1, none⟩ = some (.int .i64 s2.e) ∧ PSt W x1.heap.size B' s2 ∧ Blk W w.heap.size 38 zero6 ∧ Below w.heap.size w W)
          ((with_reducible (first
            | exact ⟨v9, hV9, hR9, hB9⟩
            | exact ⟨c0, c1, c2, c3⟩
            | (have hH := (by assumption : _ ∧ PSt _ _ _ _ ∧ Blk _ _ _ _ ∧ Below _ _ _); exact ⟨(PSt.zero6 hH.2.1 hH.2.2.1 hRn).2, (PSt.zero6 hH.2.1 hH.2.2.1 hRn).1, Blk.six hH.2.2.1, hH.2.2.2.trans (But.below (But.set6 (L := w.heap.size) (B := w.heap.size) _ _ _ _ _ _ _) (Nat.le_refl _))⟩))))
          ((go_at_call 27; have hH := (by assumption : _ ∧ PSt _ _ _ _ ∧ Blk _ _ _ _ ∧ Below _ _ _); obtain ⟨a0, a1, a2, a3⟩ := hH; refine (next_st _ a1).mono ?_; rintro e6 u ⟨rfl, hu⟩; have c0 := (hu.cell (p := ⟨x1.heap.size, 1, none⟩) a1.cells.2.2.2.2.2.1).trans a0; have c1 := a1.below hu; have c2 := Blk.bw a2 hu; have c3 := a3.trans (hu.mono a3.size); have s0 := Blk.cell c2 0; have s1' := Blk.cell c2 1; have s2' := Blk.cell c2 2; have s3 := Blk.cell c2 3; have s4 := Blk.cell c2 4; have s5 := Blk.cell c2 5; have z0 := Blk.frozen c2 0; have z1 := Blk.frozen c2 1; have z2 := Blk.frozen c2 2; have z3 := Blk.frozen c2 3; have z4 := Blk.frozen c2 4; have z5 := Blk.frozen c2 5; have zz := Blk.lt c2; simp at s0 s1' s2' s3 s4 s5; clear a0 a1 a2 a3 hu))
        obtain ⟨_, _, hRf, hBf⟩ := (by assumption : _ ∧ PSt _ _ _ _ ∧ Blk _ _ _ _ ∧ Below _ _ _)
        simp only [Exit.then]
        go_step
        go_step
        simp only [Exit.then]
        refine bodyPost_ret (results_decl (R := w.heap.size) (p := .int .i64 s2.next.pos) (e := .int .i64 s2.e) rfl rfl rfl (Blk.cell hRf 0) (Blk.cell hRf 1) (Blk.cell hRf 2) (Blk.cell hRf 3) (Blk.cell hRf 4) (Blk.cell hRf 5)) rfl ?_
        rw [HE.out]
        exact declQ_no _ _ hBf
      · have HE := hide (HE.out.trans (if_neg (by simpa using hg)))
        have bq : ((s1.next.kind : Int) != 0) = true := hq
        have bg : ((s2.e : Int) != 0) = false := hg
        have HS2 := hide (show s2 = s1.fail 3 by rw [hs2]; rfl)
        clear hs2
        clear hq hg
        go_enter Tryd.func25, Tryd.ntmps25
        go_wp2_with (first
          | (go_at_call 26; refine HSC.out.mono ?_; rintro e x1 ⟨A, c, rfl, hc, hT, hb1⟩
             have hT2 : ∃ b off, A = some ⟨b, off, none⟩ ∧ b < x1.heap.size := by
               obtain ⟨b, off, e, hb, _⟩ := hT.at_ (j := 0) (List.length_pos_iff.2 hE.ne)
               exact ⟨b, off, e, hb⟩
             obtain ⟨b, off, rfl, hb⟩ := hT2
             have hS0 := PSt.new hT hb hc hE
             have hRx := Blk.below H1.out.2 hb1 (by simp)
             have hRz := Blk.lt hRx)
          | (go_at_call 30; refine (HD.out _ _ _ hS0).mono ?_; rintro e3 x ⟨B', rv, nv, rfl, hd, hBB, hO, hI, hbb⟩
             obtain ⟨ra, rc, rfl, hra, hrs⟩ := hO.form3
             obtain ⟨na, nc, rfl, hna, hns⟩ := hI.form
             have hRq := But.blk hbb (Blk.alloc hRx _) (by simp; omega) (by omega)
             have hdz := Blk.lt hRq
             have hxz := hd.cells.2.2.2.2.2.1
             have hBx : Below w.heap.size w x := (H1.out.1.trans ((hb1.mono (by simp)).trans ((Below.refl _ _).alloc (by omega) _))).trans ((But.below hbb (by simp)).mono (by omega)))
          | (go_at_call 27; refine (next_st _ (PSt.alloc_ hd (.cells #[.int .i64 d1.kind, .string d1.name, .slice ra d1.refs.length rc, .slice na d1.nums.length nc, .int .i64 d1.by_, .bool d1.always] 38) (i := 0)).1).mono ?_; rintro e4 y ⟨rfl, hy⟩
             have hsy := (PSt.alloc_ hd (.cells #[.int .i64 d1.kind, .string d1.name, .slice ra d1.refs.length rc, .slice na d1.nums.length nc, .int .i64 d1.by_, .bool d1.always] 38) (i := 0)).1.below hy
             have hRy := Blk.bw (Blk.alloc hRq (.cells #[.int .i64 d1.kind, .string d1.name, .slice ra d1.refs.length rc, .slice na d1.nums.length nc, .int .i64 d1.by_, .bool d1.always] 38)) hy
             have hDy := Blk.bw (Blk.new x 38 #[.int .i64 d1.kind, .string d1.name, .slice ra d1.refs.length rc, .slice na d1.nums.length nc, .int .i64 d1.by_, .bool d1.always]) hy
             have hOy := (hO.alloc (.cells #[.int .i64 d1.kind, .string d1.name, .slice ra d1.refs.length rc, .slice na d1.nums.length nc, .int .i64 d1.by_, .bool d1.always] 38)).below hy
             have hIy := (hI.alloc (.cells #[.int .i64 d1.kind, .string d1.name, .slice ra d1.refs.length rc, .slice na d1.nums.length nc, .int .i64 d1.by_, .bool d1.always] 38)).below hy
             have hBy : Below w.heap.size w y := (hBx.alloc hBx.size (.cells #[.int .i64 d1.kind, .string d1.name, .slice ra d1.refs.length rc, .slice na d1.nums.length nc, .int .i64 d1.by_, .bool d1.always] 38)).trans (hy.mono (Nat.le_trans hBx.size (by simp))))
          | (go_at_call 28; refine (fail_sb 3 y hsy).mono ?_; rintro e5 v ⟨⟨rfl, hV, _⟩, hbv⟩
             rw [← HS2.out] at hV
             go_loud (have hRV := But.blk hbv hRy (Blk.lt hRy) (by omega))
             go_loud (have hDV := But.blk hbv hDy (Blk.lt hDy) (by omega))
             go_loud (have hOV := hOy.but hbv hd.bp_lt.1)
             go_loud (have hIV := hIy.but hbv hd.bp_lt.1)
             have hBV : Below w.heap.size w v := hBy.trans ((But.below hbv (Nat.le_of_lt hsy.cells.2.2.2.2.2.1)).mono (by omega))
             have hcV := hV.cells
             have v1 := hcV.1
             have vz := hcV.2.2.2.2.2.1
             have r0 := hRV.cell 0
             have r1 := hRV.cell 1
             have r2 := hRV.cell 2
             have r3 := hRV.cell 3
             have r4 := hRV.cell 4
             have r5 := hRV.cell 5
             have f0 := hRV.frozen 0
             have f1 := hRV.frozen 1
             have f2 := hRV.frozen 2
             have f3 := hRV.frozen 3
             have f4 := hRV.frozen 4
             have f5 := hRV.frozen 5
             have rz := Blk.lt hRV
             have t0 := hDV.cell 0
             have t1 := hDV.cell 1
             have t2 := hDV.cell 2
             have t3 := hDV.cell 3
             have t4 := hDV.cell 4
             have t5 := hDV.cell 5
             simp at r0 r1 r2 r3 r4 r5 t0 t1 t2 t3 t4 t5
             clear hcV))
        (try simp only [Exit.inBlock, Exit.then])
        refine bodyPost_ret (v := .tuple #[.agg #[.int .i64 d1.kind, .string d1.name, .slice ra d1.refs.length rc, .slice na d1.nums.length nc, .int .i64 d1.by_, .bool d1.always], .int .i64 0, .int .i64 0]) (by simp [results, Tryd.results25, go_sem, *]) rfl ?_
        rw [HE.out]
        have h7 := But.set6 (L := w.heap.size) (B := v.heap.size) v (.int .i64 d1.kind) (.string d1.name) (.slice ra d1.refs.length rc) (.slice na d1.nums.length nc) (.int .i64 d1.by_) (.bool d1.always)
        have k1 := OwnS.but hOV h7 (by have := hd.bp_lt; omega)
        have k2 := OwnI.but hIV h7 (by have := hd.bp_lt; omega)
        obtain ⟨rb, rd, e1, g1, g2⟩ := k1.form3
        obtain ⟨nb, nd, e2, g3, g4⟩ := k2.form
        obtain ⟨rfl, rfl⟩ : ra = rb ∧ rc = rd := by injection e1 with a b c; exact ⟨a, c⟩
        obtain ⟨rfl, rfl⟩ : na = nb ∧ nc = nd := by injection e2 with a b c; exact ⟨a, c⟩
        exact ⟨ra, rc, na, nc, rfl, g1, g3, g2, g4, ⟨by have := HZ.out.1; simp only; omega, fun s hs => by have := HZ.out.2 s hs; omega, own_max k1, own_max k2⟩, hBV.trans (But.below (h7.mono (Nat.le_of_lt rz)) (Nat.le_refl _))⟩
      · have HE := hide (HE.out.trans (if_pos (by simpa using hg)))
        have bq : ((s1.next.kind : Int) != 0) = true := hq
        have bg : ((s2.e : Int) != 0) = true := hg
        have HS2 := hide (show s2 = s1.fail 3 by rw [hs2]; rfl)
        clear hs2
        clear hq hg
        go_enter Tryd.func25, Tryd.ntmps25
        go_wp2_with (first
          | (go_at_call 26; refine HSC.out.mono ?_; rintro e x1 ⟨A, c, rfl, hc, hT, hb1⟩
             have hT2 : ∃ b off, A = some ⟨b, off, none⟩ ∧ b < x1.heap.size := by
               obtain ⟨b, off, e, hb, _⟩ := hT.at_ (j := 0) (List.length_pos_iff.2 hE.ne)
               exact ⟨b, off, e, hb⟩
             obtain ⟨b, off, rfl, hb⟩ := hT2
             have hS0 := PSt.new hT hb hc hE
             have hRx := Blk.below H1.out.2 hb1 (by simp)
             have hRz := Blk.lt hRx)
          | (go_at_call 30; refine (HD.out _ _ _ hS0).mono ?_; rintro e3 x ⟨B', rv, nv, rfl, hd, hBB, hO, hI, hbb⟩
             obtain ⟨ra, rc, rfl, hra, hrs⟩ := hO.form3
             obtain ⟨na, nc, rfl, hna, hns⟩ := hI.form
             have hRq := But.blk hbb (Blk.alloc hRx _) (by simp; omega) (by omega)
             have hdz := Blk.lt hRq
             have hxz := hd.cells.2.2.2.2.2.1
             have hBx : Below w.heap.size w x := (H1.out.1.trans ((hb1.mono (by simp)).trans ((Below.refl _ _).alloc (by omega) _))).trans ((But.below hbb (by simp)).mono (by omega)))
          | (go_at_call 27; refine (next_st _ (PSt.alloc_ hd (.cells #[.int .i64 d1.kind, .string d1.name, .slice ra d1.refs.length rc, .slice na d1.nums.length nc, .int .i64 d1.by_, .bool d1.always] 38) (i := 0)).1).mono ?_; rintro e4 y ⟨rfl, hy⟩
             have hsy := (PSt.alloc_ hd (.cells #[.int .i64 d1.kind, .string d1.name, .slice ra d1.refs.length rc, .slice na d1.nums.length nc, .int .i64 d1.by_, .bool d1.always] 38) (i := 0)).1.below hy
             have hRy := Blk.bw (Blk.alloc hRq (.cells #[.int .i64 d1.kind, .string d1.name, .slice ra d1.refs.length rc, .slice na d1.nums.length nc, .int .i64 d1.by_, .bool d1.always] 38)) hy
             have hDy := Blk.bw (Blk.new x 38 #[.int .i64 d1.kind, .string d1.name, .slice ra d1.refs.length rc, .slice na d1.nums.length nc, .int .i64 d1.by_, .bool d1.always]) hy
             have hOy := (hO.alloc (.cells #[.int .i64 d1.kind, .string d1.name, .slice ra d1.refs.length rc, .slice na d1.nums.length nc, .int .i64 d1.by_, .bool d1.always] 38)).below hy
             have hIy := (hI.alloc (.cells #[.int .i64 d1.kind, .string d1.name, .slice ra d1.refs.length rc, .slice na d1.nums.length nc, .int .i64 d1.by_, .bool d1.always] 38)).below hy
             have hBy : Below w.heap.size w y := (hBx.alloc hBx.size (.cells #[.int .i64 d1.kind, .string d1.name, .slice ra d1.refs.length rc, .slice na d1.nums.length nc, .int .i64 d1.by_, .bool d1.always] 38)).trans (hy.mono (Nat.le_trans hBx.size (by simp))))
          | (go_at_call 28; refine (fail_sb 3 y hsy).mono ?_; rintro e5 v ⟨⟨rfl, hV, _⟩, hbv⟩
             rw [← HS2.out] at hV
             have hRV := But.blk hbv hRy (Blk.lt hRy) (by omega)
             have hDV := But.blk hbv hDy (Blk.lt hDy) (by omega)
             have hOV := hOy.but hbv hd.bp_lt.1
             have hIV := hIy.but hbv hd.bp_lt.1
             have hBV : Below w.heap.size w v := hBy.trans ((But.below hbv (Nat.le_of_lt hsy.cells.2.2.2.2.2.1)).mono (by omega))
             have hcV := hV.cells
             have v1 := hcV.1
             have vz := hcV.2.2.2.2.2.1
             have r0 := hRV.cell 0
             have r1 := hRV.cell 1
             have r2 := hRV.cell 2
             have r3 := hRV.cell 3
             have r4 := hRV.cell 4
             have r5 := hRV.cell 5
             have f0 := hRV.frozen 0
             have f1 := hRV.frozen 1
             have f2 := hRV.frozen 2
             have f3 := hRV.frozen 3
             have f4 := hRV.frozen 4
             have f5 := hRV.frozen 5
             have rz := Blk.lt hRV
             have t0 := hDV.cell 0
             have t1 := hDV.cell 1
             have t2 := hDV.cell 2
             have t3 := hDV.cell 3
             have t4 := hDV.cell 4
             have t5 := hDV.cell 5
             simp at r0 r1 r2 r3 r4 r5 t0 t1 t2 t3 t4 t5
             clear hcV))
        have hfp := field_pos s2.next.kind s2.next.text s2.next.n s2.next.pos
        have hRn : w.heap.size ≠ x1.heap.size := by omega
        have hV9 := PSt.drew hV
        have hR9 := Blk.drew hRV
        have hB9 := hBV.drew
        have v9 : v.drew.cell? ⟨x1.heap.size, 1, none⟩ = some (.int .i64 s2.e) := v1
        go_region_held3 (fun W => W.cell? ⟨x1.heap.size, 1, none⟩ = some (.int .i64 s2.e) ∧ PSt W x1.heap.size B' s2 ∧ Blk W w.heap.size 38 zero6 ∧ Below w.heap.size w W)
          ((with_reducible (first
            | exact ⟨v9, hV9, hR9, hB9⟩
            | exact ⟨c0, c1, c2, c3⟩
            | (have hH := (by assumption : _ ∧ PSt _ _ _ _ ∧ Blk _ _ _ _ ∧ Below _ _ _); exact ⟨(PSt.zero6 hH.2.1 hH.2.2.1 hRn).2, (PSt.zero6 hH.2.1 hH.2.2.1 hRn).1, Blk.six hH.2.2.1, hH.2.2.2.trans (But.below (But.set6 (L := w.heap.size) (B := w.heap.size) _ _ _ _ _ _ _) (Nat.le_refl _))⟩))))
          ((go_at_call 27; have hH := (by assumption : _ ∧ PSt _ _ _ _ ∧ Blk _ _ _ _ ∧ Below _ _ _); obtain ⟨a0, a1, a2, a3⟩ := hH; refine (next_st _ a1).mono ?_; rintro e6 u ⟨rfl, hu⟩; have c0 := (hu.cell (p := ⟨x1.heap.size, 1, none⟩) a1.cells.2.2.2.2.2.1).trans a0; have c1 := a1.below hu; have c2 := Blk.bw a2 hu; have c3 := a3.trans (hu.mono a3.size); have s0 := Blk.cell c2 0; have s1' := Blk.cell c2 1; have s2' := Blk.cell c2 2; have s3 := Blk.cell c2 3; have s4 := Blk.cell c2 4; have s5 := Blk.cell c2 5; have z0 := Blk.frozen c2 0; have z1 := Blk.frozen c2 1; have z2 := Blk.frozen c2 2; have z3 := Blk.frozen c2 3; have z4 := Blk.frozen c2 4; have z5 := Blk.frozen c2 5; have zz := Blk.lt c2; simp at s0 s1' s2' s3 s4 s5; clear a0 a1 a2 a3 hu))
        obtain ⟨_, _, hRf, hBf⟩ := (by assumption : _ ∧ PSt _ _ _ _ ∧ Blk _ _ _ _ ∧ Below _ _ _)
        simp only [Exit.then]
        go_step
        go_step
        simp only [Exit.then]
        refine bodyPost_ret (results_decl (R := w.heap.size) (p := .int .i64 s2.next.pos) (e := .int .i64 s2.e) rfl rfl rfl (Blk.cell hRf 0) (Blk.cell hRf 1) (Blk.cell hRf 2) (Blk.cell hRf 3) (Blk.cell hRf 4) (Blk.cell hRf 5)) rfl ?_
        rw [HE.out]
        exact declQ_no _ _ hBf
    exact go _ rfl
end Go.Proofs.YtanhkeeifnimgaaDoor
