/- A slice of ints of the call's own. Conditions: none. Worlds that differ in one block only below a mark. Conditions: none. The walks of catalog.each and Names: the names of a model. Conditions: lengths that fit memory. The walks of package placement: units, find, Clone, mapped, with. Conditions: lengths that fit memory. The walks of package placement: mapped and with. Conditions: lengths that fit memory. -/
import Derived.Test.YtpggamapmgpjcaaGreatDoorK03
import Derived.Test.YtpggamapmgpjcaaGreatDoorK06
import Derived.Test.YtpggamapmgpjcaaGreatDoorK07
import Derived.Test.YtpggamapmgpjcaaGreatDoorK04
import Derived.Test.YtpggamapmgpjcaaGreatDoorK01
import Derived.Deep.RegionHeld3

namespace Go.Proofs.YtpggamapmgpjcaaGreatDoor
open Go Go.RowKit Go.Proofs

/-- a slice of ints of the call's own (blocks from B on) -/
def OwnI (B : Nat) (w : World) (v : Value) (l : List Int) : Prop := w.ownsRow B 3 1 v l.length (l.map (.int .i64))
theorem infoI : (Tryz.prog.info? 3).map (fun i => (i.zero, i.size, i.bytes)) = some (some (.int .i64 0), 1, 8) := by kernel_rfl
theorem OwnI.nil_ (B : Nat) (w : World) : OwnI B w (.slice none 0 0) [] := World.ownsRow_nil _ _ _ _
theorem OwnI.new {B : Nat} (w : World) (l : List Int) (hB : B ≤ w.heap.size) (hl : l.length ≤ maxLen) : OwnI B (w.alloc (.cells (l.map (Value.int .i64)).toArray 3)) (.slice (some ⟨w.heap.size, 0, none⟩) l.length l.length) l := by
  have := World.ownsRow_lit (e := 3) (size := 1) w (l.map (Value.int .i64)).toArray l.length hB hl (by simp)
  simpa [OwnI] using this
theorem OwnI.kept {B : Nat} {w w' : World} {v : Value} {l : List Int} (h : OwnI B w v l) {row : Option Nat} (hg : w.grownBy w' row) (hne : v.ownBlock = none ∨ v.ownBlock ≠ row) : OwnI B w' v l := World.ownsRow.kept h hg hne
theorem OwnI.below {B : Nat} {w w' : World} {v : Value} {l : List Int} (h : OwnI B w v l) (hb : Below w.heap.size w w') : OwnI B w' v l := by
  refine h.kept (grown_of_below hb none) ?_
  cases hv : v.ownBlock
  · exact .inl rfl
  · exact .inr (by simp)
theorem OwnI.alloc {B : Nat} {w : World} {v : Value} {l : List Int} (h : OwnI B w v l) (o : Obj) : OwnI B (w.alloc o) v l := World.ownsRow.alloc h o
theorem OwnI.lt {B : Nat} {w : World} {v : Value} {l : List Int} (h : OwnI B w v l) : ∀ k, v.ownBlock = some k → B ≤ k ∧ k < w.heap.size := World.ownsRow.lt h
theorem OwnI.form {B : Nat} {w : World} {v : Value} {l : List Int} (h : OwnI B w v l) : ∃ A c, v = .slice A l.length c ∧ l.length ≤ c ∧ Ints w w.heap.size A l := by
  have h2 := h
  rcases h2.2 with ⟨rfl, h0⟩ | ⟨g, cap, cur, rfl, _, _, hc, _⟩
  · have : l = [] := List.eq_nil_of_length_eq_zero h0
    subst this
    exact ⟨none, 0, rfl, Nat.le_refl _, Reads.none_⟩
  · exact ⟨_, _, rfl, hc, Reads.of_own h⟩
theorem append_ints {ops : Array Oper} {rest : List Oper} {o : Oper} {a : Act} {Q : Exit → Act → World → Prop} {w : World} (hgd : o.guard = none) (s x : Operand)
    (ho : o.op = .call { callee := .builtin .append, args := #[s, x], argTypes := #[89, 89] })
    (base : Nat) (v : Value) (l : List Int) (hs : a.eval s = v) (hown : OwnI base w v l)
    (B : Nat) (A : Option Addr) (c : Nat) (m : List Int) (hx : a.eval x = .slice A m.length c) (hr : Ints w B A m)
    (hlen : l.length + m.length ≤ 1099511627776) (hbase : base ≤ w.heap.size)
    (h : ∀ v' w', OwnI base w' v' (l ++ m) → w.grownBy w' v.ownBlock → (v'.ownBlock = v.ownBlock ∨ v'.ownBlock = some w.heap.size) → wpList Tryz.prog ops Q rest (a.put o.dst v') w') : wpList Tryz.prog ops Q (o :: rest) a w := by
  obtain ⟨i0, hi, hz0, hz1, hz2⟩ := info_parts infoI
  refine wpList_plain hgd fun _ hK => wp_append_any w s x 89 ho base 3 i0 _ 1 8 Tryz.underlying89 hi hz0 hz1 hz2 rfl (by omega) v l.length (l.map (.int .i64)) hs hown B A m.length c (m.map (.int .i64)) hx hr ?_ ?_ ?_ hbase
    fun v' w' h2 h3 h4 => hK _ _ (h v' w' ?_ h3 h4)
  · intro u hu
    obtain ⟨y, _, rfl⟩ := List.mem_map.1 hu
    rfl
  · unfold maxLen; omega
  · omega
  · unfold OwnI; rw [List.map_append, List.length_append]; exact h2
theorem Ints.newRow2 (w : World) {b : Nat} (t : TypeId) (l : List Int) (hb : b = w.heap.size) : Ints (w.alloc (.cells (l.map (Value.int .i64)).toArray t)) (w.heap.size + 1) (some ⟨b, 0, none⟩) l := by
  subst hb
  have := Reads.newRow w (l.map (Value.int .i64)).toArray t l.length 1 (by simp)
  simpa [Ints] using this
end Go.Proofs.YtpggamapmgpjcaaGreatDoor

namespace Go.Proofs.YtpggamapmgpjcaaGreatDoor
open Go Go.RowKit Go.Proofs

/-- below block B nothing has changed but block g -/
structure But (g B : Nat) (w w' : World) : Prop where
  os : w'.os = w.os
  tape : w'.tape = w.tape
  output : w'.output = w.output
  size : w.heap.size ≤ w'.heap.size
  block : ∀ k, k < B → k ≠ g → w'.heap[k]? = w.heap[k]?
theorem But.refl (g B : Nat) (w : World) : But g B w w := ⟨rfl, rfl, rfl, Nat.le_refl _, fun _ _ _ => rfl⟩
theorem But.trans {g B : Nat} {a b c : World} (h : But g B a b) (k : But g B b c) : But g B a c :=
  ⟨k.os.trans h.os, k.tape.trans h.tape, k.output.trans h.output, Nat.le_trans h.size k.size, fun i hi hn => (k.block i hi hn).trans (h.block i hi hn)⟩
theorem But.mono {g B B' : Nat} {w w' : World} (h : But g B w w') (hB : B' ≤ B) : But g B' w w' := ⟨h.os, h.tape, h.output, h.size, fun k hk hn => h.block k (Nat.lt_of_lt_of_le hk hB) hn⟩
theorem But.ofBelow {g B : Nat} {w w' : World} (h : Below B w w') : But g B w w' := ⟨h.os, h.tape, h.output, h.size, fun k hk _ => h.block k hk⟩
theorem But.toBelow {g B : Nat} {w w' : World} (h : But g B w w') : Below (min g B) w w' := ⟨h.os, h.tape, h.output, h.size, fun k hk => h.block k (by omega) (by omega)⟩
theorem But.below {g B : Nat} {w w' : World} (h : But g B w w') (hg : g ≤ B) : Below g w w' := ⟨h.os, h.tape, h.output, h.size, fun k hk => h.block k (by omega) (by omega)⟩
theorem But.cell {g B : Nat} {w w' : World} (h : But g B w w') {p : Addr} (hp : p.block < B) (hn : p.block ≠ g) : w'.cell? p = w.cell? p := World.cell?_of_block (h.block p.block hp hn)
theorem But.blk {g B b : Nat} {w w' : World} {t : TypeId} {cs : Array Value} (h : But g B w w') (hB : Blk w b t cs) (hb : b < B) (hn : b ≠ g) : Blk w' b t cs := (h.block b hb hn).trans hB
theorem But.grown {g : Nat} {w w' : World} (h : But g w.heap.size w w') : w.grownBy w' (some g) := ⟨h.os, h.tape, h.output, h.size, fun k hk hn => h.block k hk (fun e => hn (by rw [e]))⟩
theorem But.set_ {g B : Nat} (w : World) (i : Nat) (u : Value) : But g B w (w.setCell ⟨g, i, none⟩ u) :=
  ⟨rfl, rfl, rfl, by simp [World.setCell], fun k _ hn => Below.heap_setCell w ⟨g, i, none⟩ u k hn⟩
theorem But.ofGrown {g B : Nat} {w w' : World} {row : Option Nat} (h : w.grownBy w' row) (hB : B ≤ w.heap.size) (hr : ∀ k, row = some k → B ≤ k) : But g B w w' :=
  ⟨h.os, h.tape, h.output, h.size, fun k hk _ => h.block k (by omega) (fun e => by have := hr k e.symm; omega)⟩
/-- a slice whose block is not g -/
def Off (g : Nat) (A : Option Addr) : Prop := ∀ ad, A = some ad → ad.block ≠ g
theorem Reads.but {w w' : World} {B size n g : Nat} {A : Option Addr} {xs : List Value} (h : Reads w B size A n xs) (hA : Off g A) (hb : But g B w w') : Reads w' B size A n xs :=
  ⟨h.1, fun hn => by
    obtain ⟨ad, e, hlt, hc⟩ := h.2 hn
    exact ⟨ad, e, hlt, fun j u hu => (hb.cell (by rw [block_of_add]; exact hlt) (by rw [block_of_add]; exact hA ad e)).trans (hc j u hu)⟩⟩
theorem OwnS.but {B g : Nat} {w w' : World} {v : Value} {l : List ByteArray} (h : OwnS B w v l) (hb : But g w.heap.size w w') (hg : g < B) : OwnS B w' v l := by
  refine h.kept hb.grown ?_
  cases hv : v.ownBlock
  · exact .inl rfl
  · refine .inr (fun e => ?_)
    have := h.lt _ hv
    have e2 := Option.some.inj e
    omega
theorem OwnI.but {B g : Nat} {w w' : World} {v : Value} {l : List Int} (h : OwnI B w v l) (hb : But g w.heap.size w w') (hg : g < B) : OwnI B w' v l := by
  refine h.kept hb.grown ?_
  cases hv : v.ownBlock
  · exact .inl rfl
  · refine .inr (fun e => ?_)
    have := h.lt _ hv
    have e2 := Option.some.inj e
    omega
theorem Blk.setCells_ {g : Nat} {t : TypeId} : ∀ (vs : List Value) (o : Nat) (cs : Array Value) (w : World), Blk w g t cs → ∃ cs', Blk (w.setCells g o vs) g t cs' ∧ cs'.size = cs.size ∧ ∀ q, q < o → cs'[q]? = cs[q]?
  | [], _, cs, _, h => ⟨cs, h, rfl, fun _ _ => rfl⟩
  | v :: vs, o, cs, w, h => by
    obtain ⟨cs', h1, h2, h3⟩ := Blk.setCells_ vs (o + 1) _ _ (Blk.set_ h o v)
    refine ⟨cs', h1, by rw [h2]; simp, fun q hq => ?_⟩
    rw [h3 q (by omega)]
    simp [show o ≠ q by omega]
theorem But.setCells_ {g B : Nat} : ∀ (vs : List Value) (o : Nat) (w : World), But g B w (w.setCells g o vs)
  | [], _, w => But.refl g B w
  | v :: vs, o, w => (But.set_ w o v).trans (But.setCells_ vs (o + 1) _)
end Go.Proofs.YtpggamapmgpjcaaGreatDoor

namespace Go.Proofs.YtpggamapmgpjcaaGreatDoor
open Go Go.RowKit Go.Proofs

theorem But.below2 {g B B' : Nat} {w w' : World} (h : But g B w w') (h1 : B' ≤ B) (h2 : B' ≤ g) : Below B' w w' := ⟨h.os, h.tape, h.output, h.size, fun k hk => h.block k (Nat.lt_of_lt_of_le hk h1) (by omega)⟩
theorem But.drewN {g B : Nat} {w w' : World} (h : But g B w w') (n : Nat) : But g B w (w'.drewN n) := h.trans (But.ofBelow (below_drawn (Below.refl _ _) n))
theorem wipe_take {L : List ByteArray} {n : Nat} (h : n ≤ L.length) : (L.take n).length = n := by simp; omega
/-- the collector of the names: the variable bo holds a slice of strings of the call's own, blocks from B on -/
structure Coll (B bo : Nat) (w : World) (l : List ByteArray) : Prop where
  ex : ∃ v, Blk w bo 22 #[v] ∧ OwnS B w v l
theorem Coll.keep {B bo : Nat} {w w' : World} {l : List ByteArray} (h : Coll B bo w l) (hb : Below w.heap.size w w') : Coll B bo w' l := by
  obtain ⟨v, h1, h2⟩ := h.ex
  exact ⟨v, h1.below hb h1.lt, h2.below hb⟩
theorem Coll.drewN {B bo : Nat} {w : World} {l : List ByteArray} (h : Coll B bo w l) (n : Nat) : Coll B bo (w.drewN n) l := by
  obtain ⟨v, h1, h2⟩ := h.ex
  exact ⟨v, h1.drewN n, h2.below (below_drawn (Below.refl _ _) n)⟩
/-- what a call that collects one more name does -/
def CollP (B bo : Nat) (l : List ByteArray) (w : World) (e : Ending) (w' : World) : Prop :=
  e = .returned (.bool false) ∧ Coll B bo w' l ∧ But bo B w w' ∧ ∀ (k : Nat) (T : TypeId) (cs : Array Value), k ≠ bo → T ≠ 9 → Blk w k T cs → Blk w' k T cs

set_option maxRecDepth 100000 in
set_option maxHeartbeats 2000000 in
theorem names_one (B bo : Nat) (s : ByteArray) (a b : Int) (l : List ByteArray) (w : World) (h : Coll B bo w l) (hbo : bo < B) (hlen : l.length ≤ 1000) (hB : B ≤ w.heap.size) :
    Calls Tryz.prog 79 #[.string s, .int .i64 a, .int .i64 b, .pointer (some ⟨bo, 0, none⟩)] w (CollP B bo (l ++ [s]) w) := by
  obtain ⟨v, h1, h2⟩ := h.ex
  have x0 := h1.cell 0
  have f0 := h1.frozen 0
  have hlt := h1.lt
  simp at x0
  go_enter Tryz.func79, Tryz.ntmps79
  go_wp2_with (at_builtin; refine append_strs rfl _ _ rfl B _ l rfl (h2.alloc _) _ _ 1 [s] rfl (Strs.newRow2 w 9 [s] rfl) (by simp; omega) (by simp; omega) ?_; intro v3 x3 hO3 hg3 _
               have hg : (w.alloc (.cells #[.string s] 9)).grownBy x3 v.ownBlock := hg3
               have hv := fun k hk => (h2.lt k hk).1
               have h13 : Blk x3 bo 22 #[v] := (h1.alloc _).grown hg (fun e => by have := hv _ e.symm; omega)
               have y0 := h13.cell 0
               have g0 := h13.frozen 0
               have hlt3 := h13.lt
               simp at y0
               obtain ⟨A3, c3, hv3, _, _⟩ := hO3.form3
               obtain ⟨n3, hn3⟩ : ∃ n3, n3 = (l ++ [s]).length := ⟨_, rfl⟩
               rw [← hn3] at hv3
               clear hn3 hg3
               subst hv3)
  go_ret
  refine ⟨rfl, ⟨_, by have := h13.set_ 0 (.slice A3 n3 c3); simpa using this, ?_⟩, ⟨hg.os, hg.tape, hg.output, ?_, fun k hkB hne => ?_⟩, fun k T cs hne hT hk => ?_⟩
  · exact hO3.kept ⟨rfl, rfl, rfl, by simp, fun k hk hne => Below.heap_setCell _ _ _ k (fun e => hne (by rw [e]))⟩ (.inr (fun e => by have := (hO3.lt _ e).1; omega)) (row := some bo)
  · have := hg.size; simp at this ⊢; omega
  · have e1 := Below.heap_setCell x3 ⟨bo, 0, none⟩ (.slice A3 n3 c3) k hne
    have e2 := hg.block k (by simp; omega) (fun e => by have := hv _ e.symm; omega)
    exact (e1.trans e2).trans (Below.heap_alloc w _ k (by omega))
  · have hk1 : Blk (w.alloc (.cells #[.string s] 9)) k T cs := hk.alloc _
    have hk2 : Blk x3 k T cs := hk1.grown hg (fun e => by
      rcases h2.2 with ⟨rfl, _⟩ | ⟨g, cap, cur, rfl, _, hh, _⟩
      · cases e
      · obtain rfl : k = g := Option.some.inj e
        rw [show w.heap[k]? = some (.cells cs T (0, 0)) from hk] at hh
        simp at hh
        exact hT hh.2)
    exact hk2.far (p := ⟨bo, 0, none⟩) hne _

/-- what a call that answers some int does -/
def SomeI (W : World) (e : Ending) (w' : World) : Prop := ∃ n : Int, e = .returned (.int .i64 n) ∧ W = w'
def nml (m : Mod) (j : Nat) : List ByteArray := match j with | 0 => m.sites | 1 => m.feeds | 2 => m.racks.map (·.name) | 3 => m.machs.map (·.name) | _ => m.items.map (·.name)
def gNm (j : Nat) : Nat := match j with | 0 => 116 | 1 => 118 | 2 => 120 | 3 => 122 | _ => 124
def gKd (j : Nat) : Nat := match j with | 0 => 117 | 1 => 119 | 2 => 121 | 3 => 123 | _ => 125
def lKd (j bm : Nat) : Array Value := match j with | 4 => #[.pointer (some ⟨bm, 0, none⟩)] | _ => #[]
def preN (m : Mod) (j : Nat) : List ByteArray := (List.range j).flatMap (nml m)
theorem preN_succ (m : Mod) (j : Nat) : preN m j ++ nml m j = preN m (j + 1) := by simp [preN, List.range_succ]
theorem preN_5 (m : Mod) : preN m 5 = nameList m := by simp [preN, nameList, nml, List.range_succ]
set_option maxHeartbeats 400000 in
theorem itemKind_prog (k : Int) (w : World) : Calls Tryz.prog 126 #[.int .i64 k] w (SomeI w) := by
  go_enter Tryz.func126, Tryz.ntmps126
  go_wp2_with fail
  all_goals
    go_ret
    exact ⟨_, rfl, rfl⟩
set_option maxHeartbeats 400000 in
theorem name_0 (h : MH) (m : Mod) (bm B0 i : Nat) (W : World) (hM : Blk W bm 29 #[.slice h.s m.sites.length h.sc, .slice h.f m.feeds.length h.fc, .slice h.r m.racks.length h.rc, .slice h.m m.machs.length h.mc, .slice h.l m.links.length h.lc, .slice h.i m.items.length h.ic, .int .i64 m.dark, .int .i64 m.slots, .int .i64 m.reserve, .int .i64 m.failures, .slice h.u m.rules.length h.uc]) (d : MD W B0 h m) (hi : i < m.sites.length) (_hl : m.sites.length ≤ 9223372036854775807) :
    Calls Tryz.prog 116 #[.int .i64 i, .pointer (some ⟨bm, 0, none⟩)] W fun e w' => e = .returned (.string m.sites[i]) ∧ W = w' := by
  obtain ⟨c0, c1, c2, c3, c4, c5, c6, c7, c8, c9, c10⟩ := MB.cells hM
  have hlt := hM.lt
  obtain ⟨b, off, hA, hb, x0⟩ := str_at d.dS hi
  rw [hA] at c0
  have hiI : (i : Int) < (m.sites.length : Int) := by omega
  clear hA
  go_enter Tryz.func116, Tryz.ntmps116
  go_wp2_with fail
  go_ret
  exact ⟨rfl, rfl⟩
set_option maxHeartbeats 400000 in
theorem name_1 (h : MH) (m : Mod) (bm B0 i : Nat) (W : World) (hM : Blk W bm 29 #[.slice h.s m.sites.length h.sc, .slice h.f m.feeds.length h.fc, .slice h.r m.racks.length h.rc, .slice h.m m.machs.length h.mc, .slice h.l m.links.length h.lc, .slice h.i m.items.length h.ic, .int .i64 m.dark, .int .i64 m.slots, .int .i64 m.reserve, .int .i64 m.failures, .slice h.u m.rules.length h.uc]) (d : MD W B0 h m) (hi : i < m.feeds.length) (_hl : m.feeds.length ≤ 9223372036854775807) :
    Calls Tryz.prog 118 #[.int .i64 i, .pointer (some ⟨bm, 0, none⟩)] W fun e w' => e = .returned (.string m.feeds[i]) ∧ W = w' := by
  obtain ⟨c0, c1, c2, c3, c4, c5, c6, c7, c8, c9, c10⟩ := MB.cells hM
  have hlt := hM.lt
  obtain ⟨b, off, hA, hb, x0⟩ := str_at d.dF hi
  rw [hA] at c1
  have hiI : (i : Int) < (m.feeds.length : Int) := by omega
  clear hA
  go_enter Tryz.func118, Tryz.ntmps118
  go_wp2_with fail
  go_ret
  exact ⟨rfl, rfl⟩
set_option maxHeartbeats 400000 in
theorem name_2 (h : MH) (m : Mod) (bm B0 i : Nat) (W : World) (hM : Blk W bm 29 #[.slice h.s m.sites.length h.sc, .slice h.f m.feeds.length h.fc, .slice h.r m.racks.length h.rc, .slice h.m m.machs.length h.mc, .slice h.l m.links.length h.lc, .slice h.i m.items.length h.ic, .int .i64 m.dark, .int .i64 m.slots, .int .i64 m.reserve, .int .i64 m.failures, .slice h.u m.rules.length h.uc]) (d : MD W B0 h m) (hi : i < m.racks.length) (_hl : m.racks.length ≤ 9223372036854775807) :
    Calls Tryz.prog 120 #[.int .i64 i, .pointer (some ⟨bm, 0, none⟩)] W fun e w' => e = .returned (.string m.racks[i].name) ∧ W = w' := by
  obtain ⟨c0, c1, c2, c3, c4, c5, c6, c7, c8, c9, c10⟩ := MB.cells hM
  have hlt := hM.lt
  obtain ⟨b, off, hA, hb, x0, x1, x2, _⟩ := d.dR.rack hi
  rw [hA] at c2
  have hiI : (i : Int) < (m.racks.length : Int) := by omega
  clear hA
  go_enter Tryz.func120, Tryz.ntmps120
  go_wp2_with fail
  go_ret
  exact ⟨rfl, rfl⟩
set_option maxHeartbeats 400000 in
theorem name_3 (h : MH) (m : Mod) (bm B0 i : Nat) (W : World) (hM : Blk W bm 29 #[.slice h.s m.sites.length h.sc, .slice h.f m.feeds.length h.fc, .slice h.r m.racks.length h.rc, .slice h.m m.machs.length h.mc, .slice h.l m.links.length h.lc, .slice h.i m.items.length h.ic, .int .i64 m.dark, .int .i64 m.slots, .int .i64 m.reserve, .int .i64 m.failures, .slice h.u m.rules.length h.uc]) (d : MD W B0 h m) (hi : i < m.machs.length) (_hl : m.machs.length ≤ 9223372036854775807) :
    Calls Tryz.prog 122 #[.int .i64 i, .pointer (some ⟨bm, 0, none⟩)] W fun e w' => e = .returned (.string m.machs[i].name) ∧ W = w' := by
  obtain ⟨c0, c1, c2, c3, c4, c5, c6, c7, c8, c9, c10⟩ := MB.cells hM
  have hlt := hM.lt
  obtain ⟨b, off, hA, hb, x0, x1, x2, _⟩ := d.dM.mach hi
  rw [hA] at c3
  have hiI : (i : Int) < (m.machs.length : Int) := by omega
  clear hA
  go_enter Tryz.func122, Tryz.ntmps122
  go_wp2_with fail
  go_ret
  exact ⟨rfl, rfl⟩
set_option maxHeartbeats 400000 in
theorem name_4 (h : MH) (m : Mod) (bm B0 i : Nat) (W : World) (hM : Blk W bm 29 #[.slice h.s m.sites.length h.sc, .slice h.f m.feeds.length h.fc, .slice h.r m.racks.length h.rc, .slice h.m m.machs.length h.mc, .slice h.l m.links.length h.lc, .slice h.i m.items.length h.ic, .int .i64 m.dark, .int .i64 m.slots, .int .i64 m.reserve, .int .i64 m.failures, .slice h.u m.rules.length h.uc]) (d : MD W B0 h m) (hi : i < m.items.length) (_hl : m.items.length ≤ 9223372036854775807) :
    Calls Tryz.prog 124 #[.int .i64 i, .pointer (some ⟨bm, 0, none⟩)] W fun e w' => e = .returned (.string m.items[i].name) ∧ W = w' := by
  obtain ⟨c0, c1, c2, c3, c4, c5, c6, c7, c8, c9, c10⟩ := MB.cells hM
  have hlt := hM.lt
  obtain ⟨b, off, A2, c2, hA, hb, x0, x1, x2, x3, x4, x5, x6, _⟩ := d.dI.item hi
  rw [hA] at c5
  have hiI : (i : Int) < (m.items.length : Int) := by omega
  clear hA
  go_enter Tryz.func124, Tryz.ntmps124
  go_wp2_with fail
  go_ret
  exact ⟨rfl, rfl⟩
set_option maxHeartbeats 400000 in
theorem kind_0 (i : Nat) (W : World) : Calls Tryz.prog 117 #[.int .i64 i] W (SomeI W) := by
  go_enter Tryz.func117, Tryz.ntmps117
  go_wp2_with fail
  go_ret
  exact ⟨_, rfl, rfl⟩
set_option maxHeartbeats 400000 in
theorem kind_1 (i : Nat) (W : World) : Calls Tryz.prog 119 #[.int .i64 i] W (SomeI W) := by
  go_enter Tryz.func119, Tryz.ntmps119
  go_wp2_with fail
  go_ret
  exact ⟨_, rfl, rfl⟩
set_option maxHeartbeats 400000 in
theorem kind_2 (i : Nat) (W : World) : Calls Tryz.prog 121 #[.int .i64 i] W (SomeI W) := by
  go_enter Tryz.func121, Tryz.ntmps121
  go_wp2_with fail
  go_ret
  exact ⟨_, rfl, rfl⟩
set_option maxHeartbeats 400000 in
theorem kind_3 (i : Nat) (W : World) : Calls Tryz.prog 123 #[.int .i64 i] W (SomeI W) := by
  go_enter Tryz.func123, Tryz.ntmps123
  go_wp2_with fail
  go_ret
  exact ⟨_, rfl, rfl⟩
set_option maxHeartbeats 400000 in
theorem kind_4 (h : MH) (m : Mod) (bm B0 i : Nat) (W : World) (hM : Blk W bm 29 #[.slice h.s m.sites.length h.sc, .slice h.f m.feeds.length h.fc, .slice h.r m.racks.length h.rc, .slice h.m m.machs.length h.mc, .slice h.l m.links.length h.lc, .slice h.i m.items.length h.ic, .int .i64 m.dark, .int .i64 m.slots, .int .i64 m.reserve, .int .i64 m.failures, .slice h.u m.rules.length h.uc]) (d : MD W B0 h m) (hi : i < m.items.length) (_hl : m.items.length ≤ 9223372036854775807) :
    Calls Tryz.prog 125 #[.int .i64 i, .pointer (some ⟨bm, 0, none⟩)] W (SomeI W) := by
  obtain ⟨c0, c1, c2, c3, c4, c5, c6, c7, c8, c9, c10⟩ := MB.cells hM
  have hlt := hM.lt
  obtain ⟨b, off, A2, c2', hA, hb, x0, x1, x2, x3, x4, x5, x6, _⟩ := d.dI.item hi
  rw [hA] at c5
  have hiI : (i : Int) < (m.items.length : Int) := by omega
  clear hA
  go_enter Tryz.func125, Tryz.ntmps125
  go_wp2_with (go_at_call 126; refine (itemKind_prog _ _).mono ?_; rintro e w1 ⟨n, rfl, rfl⟩)
  go_ret
  exact ⟨_, rfl, rfl⟩
theorem name_any (h : MH) (m : Mod) (bm B0 i j : Nat) (hj : j < 5) (W : World) (hM : Blk W bm 29 #[.slice h.s m.sites.length h.sc, .slice h.f m.feeds.length h.fc, .slice h.r m.racks.length h.rc, .slice h.m m.machs.length h.mc, .slice h.l m.links.length h.lc, .slice h.i m.items.length h.ic, .int .i64 m.dark, .int .i64 m.slots, .int .i64 m.reserve, .int .i64 m.failures, .slice h.u m.rules.length h.uc]) (d : MD W B0 h m) (hi : i < (nml m j).length) :
    Calls Tryz.prog (gNm j) (#[.int .i64 i] ++ #[.pointer (some ⟨bm, 0, none⟩)]) W fun e w' => e = .returned (.string (nml m j)[i]) ∧ W = w' := by
  match j, hj, hi with
  | 0, _, hi => exact name_0 h m bm B0 i W hM d hi d.sl
  | 1, _, hi => exact name_1 h m bm B0 i W hM d hi d.fl
  | 2, _, hi => simp [nml] at hi; simpa [nml, gNm] using name_2 h m bm B0 i W hM d hi d.rl
  | 3, _, hi => simp [nml] at hi; simpa [nml, gNm] using name_3 h m bm B0 i W hM d hi d.ml
  | 4, _, hi => simp [nml] at hi; simpa [nml, gNm] using name_4 h m bm B0 i W hM d hi d.il
theorem kind_any (h : MH) (m : Mod) (bm B0 i j : Nat) (hj : j < 5) (W : World) (hM : Blk W bm 29 #[.slice h.s m.sites.length h.sc, .slice h.f m.feeds.length h.fc, .slice h.r m.racks.length h.rc, .slice h.m m.machs.length h.mc, .slice h.l m.links.length h.lc, .slice h.i m.items.length h.ic, .int .i64 m.dark, .int .i64 m.slots, .int .i64 m.reserve, .int .i64 m.failures, .slice h.u m.rules.length h.uc]) (d : MD W B0 h m) (hi : i < (nml m j).length) :
    Calls Tryz.prog (gKd j) (#[.int .i64 i] ++ lKd j bm) W (SomeI W) := by
  match j, hj, hi with
  | 0, _, hi => exact kind_0 i W
  | 1, _, hi => exact kind_1 i W
  | 2, _, hi => exact kind_2 i W
  | 3, _, hi => exact kind_3 i W
  | 4, _, hi => simp [nml] at hi; exact kind_4 h m bm B0 i W hM d hi d.il
theorem enter_nm (j : Nat) (hj : j < 5) : ∀ args w, (callFunc (gNm j) args).run Tryz.prog w = .ok (.enter (gNm j) args) w := by
  match j, hj with
  | 0, _ => exact (show ∀ args w, (callFunc 116 args).run Tryz.prog w = .ok (.enter 116 args) w from fun args w => by kernel_rfl)
  | 1, _ => exact (show ∀ args w, (callFunc 118 args).run Tryz.prog w = .ok (.enter 118 args) w from fun args w => by kernel_rfl)
  | 2, _ => exact (show ∀ args w, (callFunc 120 args).run Tryz.prog w = .ok (.enter 120 args) w from fun args w => by kernel_rfl)
  | 3, _ => exact (show ∀ args w, (callFunc 122 args).run Tryz.prog w = .ok (.enter 122 args) w from fun args w => by kernel_rfl)
  | 4, _ => exact (show ∀ args w, (callFunc 124 args).run Tryz.prog w = .ok (.enter 124 args) w from fun args w => by kernel_rfl)
theorem enter_kd (j : Nat) (hj : j < 5) : ∀ args w, (callFunc (gKd j) args).run Tryz.prog w = .ok (.enter (gKd j) args) w := by
  match j, hj with
  | 0, _ => exact (show ∀ args w, (callFunc 117 args).run Tryz.prog w = .ok (.enter 117 args) w from fun args w => by kernel_rfl)
  | 1, _ => exact (show ∀ args w, (callFunc 119 args).run Tryz.prog w = .ok (.enter 119 args) w from fun args w => by kernel_rfl)
  | 2, _ => exact (show ∀ args w, (callFunc 121 args).run Tryz.prog w = .ok (.enter 121 args) w from fun args w => by kernel_rfl)
  | 3, _ => exact (show ∀ args w, (callFunc 123 args).run Tryz.prog w = .ok (.enter 123 args) w from fun args w => by kernel_rfl)
  | 4, _ => exact (show ∀ args w, (callFunc 125 args).run Tryz.prog w = .ok (.enter 125 args) w from fun args w => by kernel_rfl)
end Go.Proofs.YtpggamapmgpjcaaGreatDoor

namespace Go.Proofs.YtpggamapmgpjcaaGreatDoor
open Go Go.RowKit Go.Proofs

theorem unitsP_no {p : PlaceM} {item : Int} (h : exI item p.length = false) : unitsP p item = [] := by simp [unitsP, h]
theorem unitsP_yes {p : PlaceM} {j : Nat} (hj : j < p.length) : unitsP p ((j : Int) + 1) = p[j] := by
  have : exI ((j : Int) + 1) p.length = true := by simp [exI]; omega
  simp [unitsP, this, hj]
def PredUnit (g : Nat) (lb : Array Value) (l : List UnitM) (p : UnitM → Bool) (w : World) : Prop :=
  ∀ (i : Nat) (_ : i < l.length) (W : World), Below w.heap.size w W → Calls Tryz.prog g (#[.agg #[.int .i64 l[i].1, .int .i64 l[i].2]] ++ lb) W fun e w' => e = .returned (.bool (p l[i])) ∧ Below W.heap.size W w'
def findI (l : List UnitM) (mc : Int) : Int := firstI (fun u => decide (u.1 = mc)) l
theorem findI_eq (l : List UnitM) (mc : Int) : findI l mc = match findU l mc with | some k => (k : Int) | none => -1 := rfl
theorem findI_range (l : List UnitM) (mc : Int) : -1 ≤ findI l mc ∧ findI l mc < l.length + 1 := by
  rw [findI_eq]
  cases h : findU l mc with
  | none => simp; omega
  | some k =>
    have := (List.findIdx?_eq_some_iff_getElem.1 h).1
    simp; omega
end Go.Proofs.YtpggamapmgpjcaaGreatDoor

namespace Go.Proofs.YtpggamapmgpjcaaGreatDoor
open Go Go.RowKit Go.Proofs

end Go.Proofs.YtpggamapmgpjcaaGreatDoor
