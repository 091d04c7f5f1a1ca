/- Slices of the call's own: append, and what they read as. Conditions: lengths that fit memory. append onto a slice of strings of the call's own, inside a region that draws its order. Conditions: lengths that fit memory. Words for memory: slices of structs that came in, models, placements in rows. Conditions: none. -/
import Derived.Test.YtpggamapmgpjcaaGreatDoorProg
import Derived.Test.YtpggamapmgpjcaaGreatDoorK01
import Derived.Test.YtpggamapmgpjcaaGreatDoorK02

namespace Go.Proofs.YtpggamapmgpjcaaGreatDoor
open Go Go.RowKit

section
variable {P : Program} (w : World)
theorem run_append_of_nil (base : Nat) (t ty e : TypeId) (i : TypeInfo) (size : Nat) (ht : P.underlying t = some (.slice e)) (hi : P.info? e = some i)
    (v : Value) (n : Nat) (xs : List Value) (hown : w.ownsRow base e size v n xs) (c : Nat) : (Builtin.append_ #[t, t] ty #[v, .slice none 0 c]).run P w = .ok v w := by
  rcases hown.2 with ⟨rfl, rfl⟩ | ⟨g, cap, cur, rfl, _, _, hnc, _⟩
  · simp [Builtin.append_, run_underlying ht, sizeOf, typeInfo, hi, Builtin.lenOf, Builtin.firstCells]
  · simp [Builtin.append_, run_underlying ht, sizeOf, typeInfo, hi, Builtin.lenOf, Builtin.firstCells, hnc, storeCells]
theorem run_append_any (base : Nat) (t ty e : TypeId) (i : TypeInfo) (z : Value) (size bytes : Nat) (ht : P.underlying t = some (.slice e)) (hi : P.info? e = some i) (hz : i.zero = some z)
    (hsize : i.size = size) (hby : i.bytes = bytes) (hzs : z.cells.size = size) (hsz : 0 < size)
    (v : Value) (n : Nat) (xs : List Value) (hown : w.ownsRow base e size v n xs)
    (B : Nat) (A : Option Addr) (m c : Nat) (news : List Value) (hr : Reads w B size A m news) (h1 : ∀ u ∈ news, u.oneCell' = true)
    (h63 : n + m ≤ maxLen) (hbytes : (n + m) * bytes ≤ 140737488355328) (hbase : base ≤ w.heap.size) :
    ∃ v' w', (Builtin.append_ #[t, t] ty #[v, .slice A m c]).run P w = .ok v' w' ∧ w'.ownsRow base e size v' (n + m) (xs ++ news) ∧ w.grownBy w' v.ownBlock ∧
      (v'.ownBlock = v.ownBlock ∨ v'.ownBlock = some w.heap.size) := by
  rcases A with _ | ad
  · have hm : m = 0 := by
      rcases Nat.eq_zero_or_pos m with h0 | h0
      · exact h0
      · obtain ⟨ad, h, _⟩ := hr.2 h0
        cases h
    subst hm
    have hn : news = [] := List.eq_nil_of_length_eq_zero (by simpa using hr.1)
    subst hn
    exact ⟨v, w, run_append_of_nil w base t ty e i size ht hi v n xs hown c, by simpa using hown, World.grownBy.refl w _, .inl rfl⟩
  · have hcells : ∀ j u, news[j]? = some u → w.cell? (ad.add j) = some u := by
      intro j u hu
      rcases Nat.eq_zero_or_pos m with h0 | h0
      · subst h0
        have hn : news = [] := List.eq_nil_of_length_eq_zero (by simpa using hr.1)
        subst hn
        simp at hu
      · obtain ⟨ad', h, _, hc⟩ := hr.2 h0
        injection h with h
        subst h
        exact hc j u hu
    obtain ⟨v', w', hrun, h2, h3, _, h5⟩ := run_append_own_at (P := P) w base t ty e i z size bytes ht hi hz hsize hby hzs hsz v n xs hown ad m c news hr.1 hcells h1 h63 hbytes hbase
    exact ⟨v', w', hrun, h2, h3, h5⟩
theorem wp_append_any {o : Oper} {a : Act} {K : Act → World → Prop} {Q : Exit → Act → World → Prop} (s x : Operand) (t : TypeId)
    (ho : o.op = .call { callee := .builtin .append, args := #[s, x], argTypes := #[t, t] })
    (base : Nat) (e : TypeId) (i : TypeInfo) (z : Value) (size bytes : Nat) (ht : P.underlying t = some (.slice e)) (hi : P.info? e = some i) (hz : i.zero = some z)
    (hsize : i.size = size) (hby : i.bytes = bytes) (hzs : z.cells.size = size) (hsz : 0 < size)
    (v : Value) (n : Nat) (xs : List Value) (hs : a.eval s = v) (hown : w.ownsRow base e size v n xs)
    (B : Nat) (A : Option Addr) (m c : Nat) (news : List Value) (hx : a.eval x = .slice A m c) (hr : Reads w B size A m news) (h1 : ∀ u ∈ news, u.oneCell' = true)
    (h63 : n + m ≤ maxLen) (hbytes : (n + m) * bytes ≤ 140737488355328) (hbase : base ≤ w.heap.size)
    (h : ∀ v' w', w'.ownsRow base e size v' (n + m) (xs ++ news) → w.grownBy w' v.ownBlock → (v'.ownBlock = v.ownBlock ∨ v'.ownBlock = some w.heap.size) → K (a.put o.dst v') w') : o.wp P a w K Q := by
  obtain ⟨v', w', hrun, h2, h3, h4⟩ := run_append_any (P := P) w base t o.type e i z size bytes ht hi hz hsize hby hzs hsz v n xs hown B A m c news hr h1 h63 hbytes hbase
  unfold Oper.wp execOp
  simp only [ho, resolve, invoke, builtin, Sem.run_bind, Sem.run_pure, Result.andThen_ok, List.map_toArray, List.map_cons, List.map_nil, hs, hx, hrun]
  exact h v' w' h2 h3 h4
end

/-- a slice of strings of the call's own (blocks from B on) -/
def OwnS (B : Nat) (w : World) (v : Value) (l : List ByteArray) : Prop := w.ownsRow B 9 1 v l.length (l.map .string)
theorem infoS : (Tryz.prog.info? 9).map (fun i => (i.zero, i.size, i.bytes)) = some (some (.string ⟨#[]⟩), 1, 16) := by kernel_rfl
theorem OwnS.nil_ (B : Nat) (w : World) : OwnS B w (.slice none 0 0) [] := World.ownsRow_nil _ _ _ _
theorem OwnS.new {B : Nat} (w : World) (l : List ByteArray) (hB : B ≤ w.heap.size) (hl : l.length ≤ maxLen) : OwnS B (w.alloc (.cells (l.map Value.string).toArray 9)) (.slice (some ⟨w.heap.size, 0, none⟩) l.length l.length) l := by
  have := World.ownsRow_lit (e := 9) (size := 1) w (l.map Value.string).toArray l.length hB hl (by simp)
  simpa [OwnS] using this
theorem OwnS.kept {B : Nat} {w w' : World} {v : Value} {l : List ByteArray} (h : OwnS B w v l) {row : Option Nat} (hg : w.grownBy w' row) (hne : v.ownBlock = none ∨ v.ownBlock ≠ row) : OwnS B w' v l := World.ownsRow.kept h hg hne
theorem grown_of_below {w w' : World} (h : Below w.heap.size w w') (row : Option Nat) : w.grownBy w' row := ⟨h.os, h.tape, h.output, h.size, fun i hi _ => h.block i hi⟩
theorem OwnS.below {B : Nat} {w w' : World} {v : Value} {l : List ByteArray} (h : OwnS B w v l) (hb : Below w.heap.size w w') : OwnS B w' v l := by
  refine h.kept (grown_of_below hb none) ?_
  cases hv : v.ownBlock
  · exact .inl rfl
  · exact .inr (by simp)
theorem OwnS.alloc {B : Nat} {w : World} {v : Value} {l : List ByteArray} (h : OwnS B w v l) (o : Obj) : OwnS B (w.alloc o) v l := World.ownsRow.alloc h o
theorem OwnS.drew {B : Nat} {w : World} {v : Value} {l : List ByteArray} (h : OwnS B w v l) : OwnS B w.drew v l := h
theorem OwnS.form {B : Nat} {w : World} {v : Value} {l : List ByteArray} (h : OwnS B w v l) : ∃ A c, v = .slice A l.length c ∧ Strs w w.heap.size A l := by
  have h2 := h
  rcases h2.2 with ⟨rfl, h0⟩ | ⟨g, cap, cur, rfl, _⟩
  · have : l = [] := List.eq_nil_of_length_eq_zero h0
    subst this
    exact ⟨none, 0, rfl, Reads.none_⟩
  · exact ⟨_, _, rfl, Reads.of_own h⟩
theorem OwnS.lt {B : Nat} {w : World} {v : Value} {l : List ByteArray} (h : OwnS B w v l) : ∀ k, v.ownBlock = some k → B ≤ k ∧ k < w.heap.size := World.ownsRow.lt h
theorem Below.ofGrown {B : Nat} {a w w' : World} {v : Value} (hb : Below B a w) (hg : w.grownBy w' v.ownBlock) (hB : B ≤ w.heap.size) (hv : ∀ k, v.ownBlock = some k → B ≤ k) : Below B a w' :=
  hb.grown hg hB hv

theorem append_strs {ops : Array Oper} {rest : List Oper} {o : Oper} {a : Act} {Q : Exit → Act → World → Prop} {w : World} (hgd : o.guard = none) (s x : Operand)
    (ho : o.op = .call { callee := .builtin .append, args := #[s, x], argTypes := #[22, 22] })
    (base : Nat) (v : Value) (l : List ByteArray) (hs : a.eval s = v) (hown : OwnS base w v l)
    (B : Nat) (A : Option Addr) (c : Nat) (m : List ByteArray) (hx : a.eval x = .slice A m.length c) (hr : Strs w B A m)
    (hlen : l.length + m.length ≤ 1099511627776) (hbase : base ≤ w.heap.size)
    (h : ∀ v' w', OwnS base w' v' (l ++ m) → w.grownBy w' v.ownBlock → (v'.ownBlock = v.ownBlock ∨ v'.ownBlock = some w.heap.size) → wpList Tryz.prog ops Q rest (a.put o.dst v') w') : wpList Tryz.prog ops Q (o :: rest) a w := by
  obtain ⟨i0, hi, hz0, hz1, hz2⟩ := info_parts infoS
  refine wpList_plain hgd fun _ hK => wp_append_any w s x 22 ho base 9 i0 _ 1 16 Tryz.underlying22 hi hz0 hz1 hz2 rfl (by omega) v l.length (l.map .string) hs hown B A m.length c (m.map .string) hx hr ?_ ?_ ?_ hbase
    fun v' w' h2 h3 h4 => hK _ _ (h v' w' ?_ h3 h4)
  · intro u hu
    obtain ⟨y, _, rfl⟩ := List.mem_map.1 hu
    rfl
  · unfold maxLen; omega
  · omega
  · unfold OwnS; rw [List.map_append, List.length_append]; exact h2
end Go.Proofs.YtpggamapmgpjcaaGreatDoor

namespace Go.Proofs.YtpggamapmgpjcaaGreatDoor
open Go Go.RowKit
theorem step_append_strs {ops : Array Oper} {o : Oper} {a : Act} {K : Act → World → Prop} {Q : Exit → Act → World → Prop} {E : Prop} {w : World} (hgd : o.guard = none) (s x : Operand)
    (ho : o.op = .call { callee := .builtin .append, args := #[s, x], argTypes := #[22, 22] })
    (base : Nat) (v : Value) (l : List ByteArray) (hs : a.eval s = v) (hown : OwnS base w v l)
    (B : Nat) (A : Option Addr) (c : Nat) (m : List ByteArray) (hx : a.eval x = .slice A m.length c) (hr : Strs w B A m)
    (hlen : l.length + m.length ≤ 1099511627776) (hbase : base ≤ w.heap.size)
    (h : ∀ v' w', OwnS base w' v' (l ++ m) → w.grownBy w' v.ownBlock → (v'.ownBlock = v.ownBlock ∨ v'.ownBlock = some w.heap.size) → K (a.put o.dst v') w') :
    if Region.wanted o (yielded ops a.tmps) = true then Oper.wp Tryz.prog o a w K Q else E := by
  have hw : Region.wanted o (yielded ops a.tmps) = true := by simp [Region.wanted, hgd]
  rw [if_pos hw]
  obtain ⟨i0, hi, hz0, hz1, hz2⟩ := info_parts infoS
  refine wp_append_any w s x 22 ho base 9 i0 _ 1 16 Tryz.underlying22 hi hz0 hz1 hz2 rfl (by omega) v l.length (l.map .string) hs hown B A m.length c (m.map .string) hx hr ?_ ?_ ?_ hbase
    fun v' w' h2 h3 h4 => h v' w' ?_ h3 h4
  · intro u hu
    obtain ⟨y, _, rfl⟩ := List.mem_map.1 hu
    rfl
  · unfold maxLen; omega
  · omega
  · unfold OwnS; rw [List.map_append, List.length_append]; exact h2
end Go.Proofs.YtpggamapmgpjcaaGreatDoor

namespace Go.Proofs.YtpggamapmgpjcaaGreatDoor
open Go Go.RowKit Go.Proofs

/-! Slices of elements of k cells; R tells how an element's cells read -/
structure RelK (α : Type) where
  R : World → Nat → α → List Value → Prop
  keep : ∀ {w w' : World} {B : Nat} {x : α} {vs : List Value}, R w B x vs → (∀ p : Addr, p.block < B → w'.cell? p = w.cell? p) → R w' B x vs
  more : ∀ {w : World} {B B' : Nat} {x : α} {vs : List Value}, R w B x vs → B ≤ B' → R w B' x vs
def Rows {α : Type} (E : RelK α) (k : Nat) (w : World) (B : Nat) (A : Option Addr) (l : List α) : Prop :=
  ∀ (i : Nat) (hi : i < l.length), ∃ (b off : Nat) (vs : List Value), A = some ⟨b, off, none⟩ ∧ b < B ∧ vs.length = k ∧ E.R w B l[i] vs ∧ ∀ (j : Nat) (u : Value), vs[j]? = some u → w.cell? ⟨b, off + i * k + j, none⟩ = some u
section
variable {α : Type} {E : RelK α} {k : Nat} {w w' : World} {B B' : Nat} {A : Option Addr} {l : List α}
theorem Rows.nil_ : Rows E k w B A ([] : List α) := fun i hi => absurd hi (by simp)
theorem Rows.keep (h : Rows E k w B A l) (hk : ∀ p : Addr, p.block < B → w'.cell? p = w.cell? p) : Rows E k w' B A l := fun i hi => by
  obtain ⟨b, off, vs, e, hb, hl, hR, hc⟩ := h i hi
  exact ⟨b, off, vs, e, hb, hl, E.keep hR hk, fun j u hu => (hk _ hb).trans (hc j u hu)⟩
theorem Rows.more (h : Rows E k w B A l) (hB : B ≤ B') : Rows E k w B' A l := fun i hi => by
  obtain ⟨b, off, vs, e, hb, hl, hR, hc⟩ := h i hi
  exact ⟨b, off, vs, e, by omega, hl, E.more hR hB, hc⟩
theorem Rows.below (h : Rows E k w B A l) (hb : Below B w w') : Rows E k w' B A l := h.keep fun _ hp => hb.cell hp
/-- over growth: the usual step -/
theorem Rows.grow (h : Rows E k w w.heap.size A l) (hb : Below w.heap.size w w') : Rows E k w' w'.heap.size A l := (h.below hb).more hb.size
theorem Rows.take_ (h : Rows E k w B A l) (n : Nat) : Rows E k w B A (l.take n) := fun i hi => by
  have hi' : i < l.length := by simp at hi; omega
  have := h i hi'
  simpa using this
end
def encRack : RelK RackM := ⟨fun _ _ x vs => vs = [.string x.name, .int .i64 x.site, .int .i64 x.feed] ∧ x.name.size ≤ 9223372036854775807, fun h _ => h, fun h _ => h⟩
def encMach : RelK MachM := ⟨fun _ _ x vs => vs = [.string x.name, .int .i64 x.rack, .int .i64 x.cap] ∧ x.name.size ≤ 9223372036854775807, fun h _ => h, fun h _ => h⟩
def encLink : RelK LinkM := ⟨fun _ _ x vs => vs = [.int .i64 x.a, .int .i64 x.b, .int .i64 x.cap], fun h _ => h, fun h _ => h⟩
def encItem : RelK ItemM := ⟨fun w B x vs => ∃ A c, vs = [.string x.name, .int .i64 x.kind, .int .i64 x.count, .int .i64 x.load, .int .i64 x.size, .int .i64 x.share, .slice A x.on.length c] ∧ x.name.size ≤ 9223372036854775807 ∧ x.on.length ≤ c ∧ c ≤ 9223372036854775807 ∧ Ints w B A x.on,
  fun ⟨A, c, h1, h2, h3, h5, h4⟩ hk => ⟨A, c, h1, h2, h3, h5, h4.keep hk⟩, fun ⟨A, c, h1, h2, h3, h5, h4⟩ hB => ⟨A, c, h1, h2, h3, h5, h4.more hB⟩⟩
def encRule : RelK RuleM := ⟨fun w B x vs => ∃ A c, vs = [.int .i64 x.kind, .int .i64 x.item, .int .i64 x.other, .int .i64 x.n, .int .i64 x.by_, .bool x.always, .slice A x.machines.length c] ∧ x.machines.length ≤ c ∧ c ≤ 9223372036854775807 ∧ Ints w B A x.machines,
  fun ⟨A, c, h1, h2, h5, h4⟩ hk => ⟨A, c, h1, h2, h5, h4.keep hk⟩, fun ⟨A, c, h1, h2, h5, h4⟩ hB => ⟨A, c, h1, h2, h5, h4.more hB⟩⟩
/-- the addresses of a model's lists, and their capacities -/
structure MH where
  s : Option Addr
  sc : Nat
  f : Option Addr
  fc : Nat
  r : Option Addr
  rc : Nat
  m : Option Addr
  mc : Nat
  l : Option Addr
  lc : Nat
  i : Option Addr
  ic : Nat
  u : Option Addr
  uc : Nat
/-- a model lies in memory below block B -/
structure MD (w : World) (B : Nat) (h : MH) (m : Mod) : Prop where
  dS : Strs w B h.s m.sites
  dF : Strs w B h.f m.feeds
  dR : Rows encRack 3 w B h.r m.racks
  dM : Rows encMach 3 w B h.m m.machs
  dL : Rows encLink 3 w B h.l m.links
  dI : Rows encItem 7 w B h.i m.items
  dU : Rows encRule 7 w B h.u m.rules
  sl : m.sites.length ≤ 9223372036854775807
  fl : m.feeds.length ≤ 9223372036854775807
  rl : m.racks.length ≤ 9223372036854775807
  ml : m.machs.length ≤ 9223372036854775807
  ll : m.links.length ≤ 9223372036854775807
  il : m.items.length ≤ 9223372036854775807
  ul : m.rules.length ≤ 9223372036854775807
  sf : ∀ s ∈ m.sites, s.size ≤ 9223372036854775807
  ff : ∀ s ∈ m.feeds, s.size ≤ 9223372036854775807
section
variable {w w' : World} {B B' : Nat} {h : MH} {m : Mod}
theorem MD.keep (d : MD w B h m) (hk : ∀ p : Addr, p.block < B → w'.cell? p = w.cell? p) : MD w' B h m :=
  ⟨d.dS.keep hk, d.dF.keep hk, d.dR.keep hk, d.dM.keep hk, d.dL.keep hk, d.dI.keep hk, d.dU.keep hk, d.sl, d.fl, d.rl, d.ml, d.ll, d.il, d.ul, d.sf, d.ff⟩
theorem MD.more (d : MD w B h m) (hB : B ≤ B') : MD w B' h m :=
  ⟨d.dS.more hB, d.dF.more hB, d.dR.more hB, d.dM.more hB, d.dL.more hB, d.dI.more hB, d.dU.more hB, d.sl, d.fl, d.rl, d.ml, d.ll, d.il, d.ul, d.sf, d.ff⟩
theorem MD.below (d : MD w B h m) (hb : Below B w w') : MD w' B h m := d.keep fun _ hp => hb.cell hp
theorem MD.grow (d : MD w w.heap.size h m) (hb : Below w.heap.size w w') : MD w' w'.heap.size h m := (d.below hb).more hb.size
theorem Strs.grow {A : Option Addr} {l : List ByteArray} (h : Strs w w.heap.size A l) (hb : Below w.heap.size w w') : Strs w' w'.heap.size A l := (h.below hb).more hb.size
theorem Ints.grow {A : Option Addr} {l : List Int} (h : Ints w w.heap.size A l) (hb : Below w.heap.size w w') : Ints w' w'.heap.size A l := (h.below hb).more hb.size
theorem Rows.mach {A : Option Addr} {l : List MachM} (h : Rows encMach 3 w B A l) {i : Nat} (hi : i < l.length) : ∃ b off, A = some ⟨b, off, none⟩ ∧ b < B ∧ w.cell? ⟨b, off + i * 3, none⟩ = some (.string l[i].name) ∧ w.cell? ⟨b, off + i * 3 + 1, none⟩ = some (.int .i64 l[i].rack) ∧ w.cell? ⟨b, off + i * 3 + 2, none⟩ = some (.int .i64 l[i].cap) ∧ l[i].name.size ≤ 9223372036854775807 := by
  obtain ⟨b, off, vs, e, hb, _, ⟨rfl, hz⟩, hc⟩ := h i hi
  exact ⟨b, off, e, hb, hc 0 _ rfl, hc 1 _ rfl, hc 2 _ rfl, hz⟩
theorem Rows.rack {A : Option Addr} {l : List RackM} (h : Rows encRack 3 w B A l) {i : Nat} (hi : i < l.length) : ∃ b off, A = some ⟨b, off, none⟩ ∧ b < B ∧ w.cell? ⟨b, off + i * 3, none⟩ = some (.string l[i].name) ∧ w.cell? ⟨b, off + i * 3 + 1, none⟩ = some (.int .i64 l[i].site) ∧ w.cell? ⟨b, off + i * 3 + 2, none⟩ = some (.int .i64 l[i].feed) ∧ l[i].name.size ≤ 9223372036854775807 := by
  obtain ⟨b, off, vs, e, hb, _, ⟨rfl, hz⟩, hc⟩ := h i hi
  exact ⟨b, off, e, hb, hc 0 _ rfl, hc 1 _ rfl, hc 2 _ rfl, hz⟩
theorem Rows.link {A : Option Addr} {l : List LinkM} (h : Rows encLink 3 w B A l) {i : Nat} (hi : i < l.length) : ∃ b off, A = some ⟨b, off, none⟩ ∧ b < B ∧ w.cell? ⟨b, off + i * 3, none⟩ = some (.int .i64 l[i].a) ∧ w.cell? ⟨b, off + i * 3 + 1, none⟩ = some (.int .i64 l[i].b) ∧ w.cell? ⟨b, off + i * 3 + 2, none⟩ = some (.int .i64 l[i].cap) := by
  obtain ⟨b, off, vs, e, hb, _, rfl, hc⟩ := h i hi
  exact ⟨b, off, e, hb, hc 0 _ rfl, hc 1 _ rfl, hc 2 _ rfl⟩
theorem Rows.item {A : Option Addr} {l : List ItemM} (h : Rows encItem 7 w B A l) {i : Nat} (hi : i < l.length) : ∃ b off A2 c2, A = some ⟨b, off, none⟩ ∧ b < B ∧ w.cell? ⟨b, off + i * 7, none⟩ = some (.string l[i].name) ∧ w.cell? ⟨b, off + i * 7 + 1, none⟩ = some (.int .i64 l[i].kind) ∧ w.cell? ⟨b, off + i * 7 + 2, none⟩ = some (.int .i64 l[i].count) ∧
    w.cell? ⟨b, off + i * 7 + 3, none⟩ = some (.int .i64 l[i].load) ∧ w.cell? ⟨b, off + i * 7 + 4, none⟩ = some (.int .i64 l[i].size) ∧ w.cell? ⟨b, off + i * 7 + 5, none⟩ = some (.int .i64 l[i].share) ∧ w.cell? ⟨b, off + i * 7 + 6, none⟩ = some (.slice A2 l[i].on.length c2) ∧
    l[i].name.size ≤ 9223372036854775807 ∧ l[i].on.length ≤ c2 ∧ c2 ≤ 9223372036854775807 ∧ Ints w B A2 l[i].on := by
  obtain ⟨b, off, vs, e, hb, _, ⟨A2, c2, rfl, h1, h2, h4, h3⟩, hc⟩ := h i hi
  exact ⟨b, off, A2, c2, e, hb, hc 0 _ rfl, hc 1 _ rfl, hc 2 _ rfl, hc 3 _ rfl, hc 4 _ rfl, hc 5 _ rfl, hc 6 _ rfl, h1, h2, h4, h3⟩
theorem Rows.rule {A : Option Addr} {l : List RuleM} (h : Rows encRule 7 w B A l) {i : Nat} (hi : i < l.length) : ∃ b off A2 c2, A = some ⟨b, off, none⟩ ∧ b < B ∧ w.cell? ⟨b, off + i * 7, none⟩ = some (.int .i64 l[i].kind) ∧ w.cell? ⟨b, off + i * 7 + 1, none⟩ = some (.int .i64 l[i].item) ∧ w.cell? ⟨b, off + i * 7 + 2, none⟩ = some (.int .i64 l[i].other) ∧
    w.cell? ⟨b, off + i * 7 + 3, none⟩ = some (.int .i64 l[i].n) ∧ w.cell? ⟨b, off + i * 7 + 4, none⟩ = some (.int .i64 l[i].by_) ∧ w.cell? ⟨b, off + i * 7 + 5, none⟩ = some (.bool l[i].always) ∧ w.cell? ⟨b, off + i * 7 + 6, none⟩ = some (.slice A2 l[i].machines.length c2) ∧
    l[i].machines.length ≤ c2 ∧ c2 ≤ 9223372036854775807 ∧ Ints w B A2 l[i].machines := by
  obtain ⟨b, off, vs, e, hb, _, ⟨A2, c2, rfl, h2, h4, h3⟩, hc⟩ := h i hi
  exact ⟨b, off, A2, c2, e, hb, hc 0 _ rfl, hc 1 _ rfl, hc 2 _ rfl, hc 3 _ rfl, hc 4 _ rfl, hc 5 _ rfl, hc 6 _ rfl, h2, h4, h3⟩
theorem int_at {A : Option Addr} {l : List Int} (h : Ints w B A l) {k : Nat} (hk : k < l.length) : ∃ b off, A = some ⟨b, off, none⟩ ∧ b < B ∧ w.cell? ⟨b, off + k, none⟩ = some (.int .i64 l[k]) := by
  obtain ⟨b, off, e, hb, hc⟩ := Ints.form h (by intro e; subst e; simp at hk)
  exact ⟨b, off, e, hb, by rw [hc k hk]; simp [hk]⟩
theorem str_at {A : Option Addr} {l : List ByteArray} (h : Strs w B A l) {k : Nat} (hk : k < l.length) : ∃ b off, A = some ⟨b, off, none⟩ ∧ b < B ∧ w.cell? ⟨b, off + k, none⟩ = some (.string l[k]) := by
  obtain ⟨b, off, e, hb, hc⟩ := Strs.form h (by intro e; subst e; simp at hk)
  exact ⟨b, off, e, hb, by rw [hc k hk]; simp [hk]⟩
end
/-- a model variable is block bm, known whole; everything else has only grown -/
structure MW (w : World) (bm : Nat) (wr : World) (h : MH) (m : Mod) : Prop where
  b : Below w.heap.size w wr
  blk : Blk wr bm 29 #[.slice h.s m.sites.length h.sc, .slice h.f m.feeds.length h.fc, .slice h.r m.racks.length h.rc, .slice h.m m.machs.length h.mc, .slice h.l m.links.length h.lc, .slice h.i m.items.length h.ic, .int .i64 m.dark, .int .i64 m.slots, .int .i64 m.reserve, .int .i64 m.failures, .slice h.u m.rules.length h.uc]
section
variable {w wr w2 : World} {bm : Nat} {h : MH} {m : Mod}
theorem MW.start (w : World) (h : MH) (m : Mod) : MW w w.heap.size (w.alloc (.cells #[.slice h.s m.sites.length h.sc, .slice h.f m.feeds.length h.fc, .slice h.r m.racks.length h.rc, .slice h.m m.machs.length h.mc, .slice h.l m.links.length h.lc, .slice h.i m.items.length h.ic, .int .i64 m.dark, .int .i64 m.slots, .int .i64 m.reserve, .int .i64 m.failures, .slice h.u m.rules.length h.uc] 29)) h m := ⟨(Below.refl _ _).alloc (Nat.le_refl _) _, Blk.new _ _ _⟩
theorem MW.lt (d : MW w bm wr h m) : bm < wr.heap.size := Blk.lt d.blk
theorem MW.grow (d : MW w bm wr h m) (hb : Below wr.heap.size wr w2) : MW w bm w2 h m := ⟨d.b.trans (hb.mono d.b.size), d.blk.below hb d.lt⟩
theorem MW.drewN (d : MW w bm wr h m) (n : Nat) : MW w bm (wr.drewN n) h m := by
  induction n with
  | zero => exact d
  | succ n ih => exact ⟨ih.b.drew, ih.blk⟩
theorem MW.md (d : MW w bm wr h m) (hd : MD w w.heap.size h m) : MD wr wr.heap.size h m := hd.grow d.b
theorem MB.cells (d : Blk wr bm 29 #[.slice h.s m.sites.length h.sc, .slice h.f m.feeds.length h.fc, .slice h.r m.racks.length h.rc, .slice h.m m.machs.length h.mc, .slice h.l m.links.length h.lc, .slice h.i m.items.length h.ic, .int .i64 m.dark, .int .i64 m.slots, .int .i64 m.reserve, .int .i64 m.failures, .slice h.u m.rules.length h.uc]) :
    wr.cell? ⟨bm, 0, none⟩ = some (.slice h.s m.sites.length h.sc) ∧ wr.cell? ⟨bm, 1, none⟩ = some (.slice h.f m.feeds.length h.fc) ∧ wr.cell? ⟨bm, 2, none⟩ = some (.slice h.r m.racks.length h.rc) ∧ wr.cell? ⟨bm, 3, none⟩ = some (.slice h.m m.machs.length h.mc) ∧
    wr.cell? ⟨bm, 4, none⟩ = some (.slice h.l m.links.length h.lc) ∧ wr.cell? ⟨bm, 5, none⟩ = some (.slice h.i m.items.length h.ic) ∧ wr.cell? ⟨bm, 6, none⟩ = some (.int .i64 m.dark) ∧ wr.cell? ⟨bm, 7, none⟩ = some (.int .i64 m.slots) ∧
    wr.cell? ⟨bm, 8, none⟩ = some (.int .i64 m.reserve) ∧ wr.cell? ⟨bm, 9, none⟩ = some (.int .i64 m.failures) ∧ wr.cell? ⟨bm, 10, none⟩ = some (.slice h.u m.rules.length h.uc) :=
  ⟨d.cell 0, d.cell 1, d.cell 2, d.cell 3, d.cell 4, d.cell 5, d.cell 6, d.cell 7, d.cell 8, d.cell 9, d.cell 10⟩
end
end Go.Proofs.YtpggamapmgpjcaaGreatDoor
