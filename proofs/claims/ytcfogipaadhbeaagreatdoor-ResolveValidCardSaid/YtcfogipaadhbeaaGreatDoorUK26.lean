/- A part of the claim: see its last text. -/
import Derived.Test.YtcfogipaadhbeaaGreatDoorUK09
import Derived.Test.YtcfogipaadhbeaaGreatDoorUK21
import Derived.Test.YtcfogipaadhbeaaGreatDoorUK03
import Derived.IntWalk
import Derived.Laws.EntriesVeiled
import Derived.Deep.RegionHeld3

set_option maxRecDepth 100000
set_option maxHeartbeats 16000000
namespace Go.Proofs.YtcfogipaadhbeaaGreatDoor
open Go Go.RowKit Go.Proofs
theorem But.below2 {g B B' : Nat} {w w' : World} (h : But g B w w') (h1 : B' ≤ B) (h2 : B' ≤ g) : Below B' w w' := ⟨h.os, h.tape, h.output, h.size, fun k hk => h.block k (Nat.lt_of_lt_of_le hk h1) (by omega)⟩
theorem But.drewN {g B : Nat} {w w' : World} (h : But g B w w') (n : Nat) : But g B w (w'.drewN n) := h.trans (But.ofBelow (below_drawn (Below.refl _ _) n))
structure Coll (B bo : Nat) (w : World) (l : List ByteArray) : Prop where
 ex : ∃ v, Blk w bo 25 #[v] ∧ OwnS B w v l
theorem Coll.keep {B bo : Nat} {w w' : World} {l : List ByteArray} (h : Coll B bo w l) (hb : Below w.heap.size w w') : Coll B bo w' l := by
 obtain ⟨v, h1, h2⟩ := h.ex
 exact ⟨v, h1.below hb h1.lt, h2.below hb⟩
theorem Coll.drewN {B bo : Nat} {w : World} {l : List ByteArray} (h : Coll B bo w l) (n : Nat) : Coll B bo (w.drewN n) l := by
 obtain ⟨v, h1, h2⟩ := h.ex
 exact ⟨v, h1.drewN n, h2.below (below_drawn (Below.refl _ _) n)⟩
def CollP (B bo : Nat) (l : List ByteArray) (w : World) (e : Ending) (w' : World) : Prop :=
 e = .returned (.bool false) ∧ Coll B bo w' l ∧ But bo B w w' ∧ ∀ (k : Nat) (T : TypeId) (cs : Array Value), k ≠ bo → T ≠ 9 → Blk w k T cs → Blk w' k T cs
theorem names_one (B bo : Nat) (s : ByteArray) (a b : Int) (l : List ByteArray) (w : World) (h : Coll B bo w l) (hbo : bo < B) (hlen : l.length ≤ 1000) (hB : B ≤ w.heap.size) :
    Calls Tryz.prog 122 #[.string s, .int .i64 a, .int .i64 b, .pointer (some ⟨bo, 0, none⟩)] w (CollP B bo (l ++ [s]) w) := by
 obtain ⟨v, h1, h2⟩ := h.ex
 have x0 := h1.cell 0
 have f0 := h1.frozen 0
 have hlt := h1.lt
 simp at x0
 go_enter Tryz.func122, Tryz.ntmps122
 go_wp2_with (at_builtin; refine append_strs rfl _ _ rfl B _ l rfl (h2.alloc _) _ _ 1 [s] rfl (Strs.newRow2 w 9 [s] rfl) (by simp; omega) (by simp; omega) ?_; intro v3 x3 hO3 hg3 _
              have hg : (w.alloc (.cells #[.string s] 9)).grownBy x3 v.ownBlock := hg3
              have hv := fun k hk => (h2.lt k hk).1
              have h13 : Blk x3 bo 25 #[v] := (h1.alloc _).grown hg (fun e => by have := hv _ e.symm; omega)
              have y0 := h13.cell 0
              have g0 := h13.frozen 0
              have hlt3 := h13.lt
              simp at y0
              obtain ⟨A3, c3, hv3, _, _⟩ := hO3.form3
              obtain ⟨n3, hn3⟩ : ∃ n3, n3 = (l ++ [s]).length := ⟨_, rfl⟩
              rw [← hn3] at hv3
              clear hn3 hg3
              subst hv3)
 go_ret
 refine ⟨rfl, ⟨_, by have := h13.set_ 0 (.slice A3 n3 c3); simpa using this, ?_⟩, ⟨hg.os, hg.tape, hg.output, ?_, fun k hkB hne => ?_⟩, fun k T cs hne hT hk => ?_⟩
 · exact hO3.kept ⟨rfl, rfl, rfl, by simp, fun k hk hne => Below.heap_setCell _ _ _ k (fun e => hne (by rw [e]))⟩ (.inr (fun e => by have := (hO3.lt _ e).1; omega)) (row := some bo)
 · have := hg.size; simp at this ⊢; omega
 · have e1 := Below.heap_setCell x3 ⟨bo, 0, none⟩ (.slice A3 n3 c3) k hne
   have e2 := hg.block k (by simp; omega) (fun e => by have := hv _ e.symm; omega)
   exact (e1.trans e2).trans (Below.heap_alloc w _ k (by omega))
 · have hk1 : Blk (w.alloc (.cells #[.string s] 9)) k T cs := hk.alloc _
   have hk2 : Blk x3 k T cs := hk1.grown hg (fun e => by
    rcases h2.2 with ⟨rfl, _⟩ | ⟨g, cap, cur, rfl, _, hh, _⟩
    · cases e
    · obtain rfl : k = g := Option.some.inj e
      rw [show w.heap[k]? = some (.cells cs T (0, 0)) from hk] at hh
      simp at hh
      exact hT hh.2)
   exact hk2.far (p := ⟨bo, 0, none⟩) hne _
def SomeI (W : World) (e : Ending) (w' : World) : Prop := ∃ n : Int, e = .returned (.int .i64 n) ∧ W = w'
def nml (m : Mod) (j : Nat) : List ByteArray := match j with | 0 => m.sT | 1 => m.fT | 2 => m.rT.map (·.name) | 3 => m.mT.map (·.name) | _ => m.iT.map (·.name)
def gNm (j : Nat) : Nat := match j with | 0 => 169 | 1 => 171 | 2 => 173 | 3 => 175 | _ => 177
def gKd (j : Nat) : Nat := match j with | 0 => 170 | 1 => 172 | 2 => 174 | 3 => 176 | _ => 178
def lKd (j bm : Nat) : Array Value := match j with | 4 => #[.pointer (some ⟨bm, 0, none⟩)] | _ => #[]
def preN (m : Mod) (j : Nat) : List ByteArray := (List.range j).flatMap (nml m)
theorem preN_succ (m : Mod) (j : Nat) : preN m j ++ nml m j = preN m (j + 1) := by simp [preN, List.range_succ]
theorem preN_5 (m : Mod) : preN m 5 = nameList m := by simp [preN, nameList, nml, List.range_succ]
theorem itemKind_prog (k : Int) (w : World) : Calls Tryz.prog 179 #[.int .i64 k] w (SomeI w) := by
 go_enter Tryz.func179, Tryz.ntmps179
 go_wp2_with fail
 all_goals
  go_ret
  exact ⟨_, rfl, rfl⟩
theorem name_0 (h : MH) (m : Mod) (bm B0 i : Nat) (W : World) (hM : Blk W bm 32 #[.slice h.s m.sT.length h.sc, .slice h.f m.fT.length h.fc, .slice h.r m.rT.length h.rc, .slice h.m m.mT.length h.mc, .slice h.l m.lT.length h.lc, .slice h.i m.iT.length h.ic, .int .i64 m.dT, .int .i64 m.oT, .int .i64 m.vT, .int .i64 m.aT, .slice h.u m.uT.length h.uc]) (d : MD W B0 h m) (hi : i < m.sT.length) (_hl : m.sT.length ≤ 9223372036854775807) :
    Calls Tryz.prog 169 #[.int .i64 i, .pointer (some ⟨bm, 0, none⟩)] W fun e w' => e = .returned (.string m.sT[i]) ∧ W = w' := by
 obtain ⟨c0, c1, c2, c3, c4, c5, c6, c7, c8, c9, c10⟩ := MB.cells hM
 have hlt := hM.lt
 obtain ⟨b, off, hA, hb, x0⟩ := str_at d.dS hi
 rw [hA] at c0
 have hiI : (i : Int) < (m.sT.length : Int) := by omega
 clear hA
 go_enter Tryz.func169, Tryz.ntmps169
 go_wp2_with fail
 go_ret
 exact ⟨rfl, rfl⟩
theorem name_1 (h : MH) (m : Mod) (bm B0 i : Nat) (W : World) (hM : Blk W bm 32 #[.slice h.s m.sT.length h.sc, .slice h.f m.fT.length h.fc, .slice h.r m.rT.length h.rc, .slice h.m m.mT.length h.mc, .slice h.l m.lT.length h.lc, .slice h.i m.iT.length h.ic, .int .i64 m.dT, .int .i64 m.oT, .int .i64 m.vT, .int .i64 m.aT, .slice h.u m.uT.length h.uc]) (d : MD W B0 h m) (hi : i < m.fT.length) (_hl : m.fT.length ≤ 9223372036854775807) :
    Calls Tryz.prog 171 #[.int .i64 i, .pointer (some ⟨bm, 0, none⟩)] W fun e w' => e = .returned (.string m.fT[i]) ∧ W = w' := by
 obtain ⟨c0, c1, c2, c3, c4, c5, c6, c7, c8, c9, c10⟩ := MB.cells hM
 have hlt := hM.lt
 obtain ⟨b, off, hA, hb, x0⟩ := str_at d.dF hi
 rw [hA] at c1
 have hiI : (i : Int) < (m.fT.length : Int) := by omega
 clear hA
 go_enter Tryz.func171, Tryz.ntmps171
 go_wp2_with fail
 go_ret
 exact ⟨rfl, rfl⟩
theorem name_2 (h : MH) (m : Mod) (bm B0 i : Nat) (W : World) (hM : Blk W bm 32 #[.slice h.s m.sT.length h.sc, .slice h.f m.fT.length h.fc, .slice h.r m.rT.length h.rc, .slice h.m m.mT.length h.mc, .slice h.l m.lT.length h.lc, .slice h.i m.iT.length h.ic, .int .i64 m.dT, .int .i64 m.oT, .int .i64 m.vT, .int .i64 m.aT, .slice h.u m.uT.length h.uc]) (d : MD W B0 h m) (hi : i < m.rT.length) (_hl : m.rT.length ≤ 9223372036854775807) :
    Calls Tryz.prog 173 #[.int .i64 i, .pointer (some ⟨bm, 0, none⟩)] W fun e w' => e = .returned (.string m.rT[i].name) ∧ W = w' := by
 obtain ⟨c0, c1, c2, c3, c4, c5, c6, c7, c8, c9, c10⟩ := MB.cells hM
 have hlt := hM.lt
 obtain ⟨b, off, hA, hb, x0, x1, x2, _⟩ := d.dR.rack hi
 rw [hA] at c2
 have hiI : (i : Int) < (m.rT.length : Int) := by omega
 clear hA
 go_enter Tryz.func173, Tryz.ntmps173
 go_wp2_with fail
 go_ret
 exact ⟨rfl, rfl⟩
theorem name_3 (h : MH) (m : Mod) (bm B0 i : Nat) (W : World) (hM : Blk W bm 32 #[.slice h.s m.sT.length h.sc, .slice h.f m.fT.length h.fc, .slice h.r m.rT.length h.rc, .slice h.m m.mT.length h.mc, .slice h.l m.lT.length h.lc, .slice h.i m.iT.length h.ic, .int .i64 m.dT, .int .i64 m.oT, .int .i64 m.vT, .int .i64 m.aT, .slice h.u m.uT.length h.uc]) (d : MD W B0 h m) (hi : i < m.mT.length) (_hl : m.mT.length ≤ 9223372036854775807) :
    Calls Tryz.prog 175 #[.int .i64 i, .pointer (some ⟨bm, 0, none⟩)] W fun e w' => e = .returned (.string m.mT[i].name) ∧ W = w' := by
 obtain ⟨c0, c1, c2, c3, c4, c5, c6, c7, c8, c9, c10⟩ := MB.cells hM
 have hlt := hM.lt
 obtain ⟨b, off, hA, hb, x0, x1, x2, _⟩ := d.dM.mach hi
 rw [hA] at c3
 have hiI : (i : Int) < (m.mT.length : Int) := by omega
 clear hA
 go_enter Tryz.func175, Tryz.ntmps175
 go_wp2_with fail
 go_ret
 exact ⟨rfl, rfl⟩
theorem name_4 (h : MH) (m : Mod) (bm B0 i : Nat) (W : World) (hM : Blk W bm 32 #[.slice h.s m.sT.length h.sc, .slice h.f m.fT.length h.fc, .slice h.r m.rT.length h.rc, .slice h.m m.mT.length h.mc, .slice h.l m.lT.length h.lc, .slice h.i m.iT.length h.ic, .int .i64 m.dT, .int .i64 m.oT, .int .i64 m.vT, .int .i64 m.aT, .slice h.u m.uT.length h.uc]) (d : MD W B0 h m) (hi : i < m.iT.length) (_hl : m.iT.length ≤ 9223372036854775807) :
    Calls Tryz.prog 177 #[.int .i64 i, .pointer (some ⟨bm, 0, none⟩)] W fun e w' => e = .returned (.string m.iT[i].name) ∧ W = w' := by
 obtain ⟨c0, c1, c2, c3, c4, c5, c6, c7, c8, c9, c10⟩ := MB.cells hM
 have hlt := hM.lt
 obtain ⟨b, off, A2, c2, hA, hb, x0, x1, x2, x3, x4, x5, x6, _⟩ := d.dI.item hi
 rw [hA] at c5
 have hiI : (i : Int) < (m.iT.length : Int) := by omega
 clear hA
 go_enter Tryz.func177, Tryz.ntmps177
 go_wp2_with fail
 go_ret
 exact ⟨rfl, rfl⟩
theorem kind_0 (i : Nat) (W : World) : Calls Tryz.prog 170 #[.int .i64 i] W (SomeI W) := by
 go_enter Tryz.func170, Tryz.ntmps170
 go_wp2_with fail
 go_ret
 exact ⟨_, rfl, rfl⟩
theorem kind_1 (i : Nat) (W : World) : Calls Tryz.prog 172 #[.int .i64 i] W (SomeI W) := by
 go_enter Tryz.func172, Tryz.ntmps172
 go_wp2_with fail
 go_ret
 exact ⟨_, rfl, rfl⟩
theorem kind_2 (i : Nat) (W : World) : Calls Tryz.prog 174 #[.int .i64 i] W (SomeI W) := by
 go_enter Tryz.func174, Tryz.ntmps174
 go_wp2_with fail
 go_ret
 exact ⟨_, rfl, rfl⟩
theorem kind_3 (i : Nat) (W : World) : Calls Tryz.prog 176 #[.int .i64 i] W (SomeI W) := by
 go_enter Tryz.func176, Tryz.ntmps176
 go_wp2_with fail
 go_ret
 exact ⟨_, rfl, rfl⟩
theorem kind_4 (h : MH) (m : Mod) (bm B0 i : Nat) (W : World) (hM : Blk W bm 32 #[.slice h.s m.sT.length h.sc, .slice h.f m.fT.length h.fc, .slice h.r m.rT.length h.rc, .slice h.m m.mT.length h.mc, .slice h.l m.lT.length h.lc, .slice h.i m.iT.length h.ic, .int .i64 m.dT, .int .i64 m.oT, .int .i64 m.vT, .int .i64 m.aT, .slice h.u m.uT.length h.uc]) (d : MD W B0 h m) (hi : i < m.iT.length) (_hl : m.iT.length ≤ 9223372036854775807) :
    Calls Tryz.prog 178 #[.int .i64 i, .pointer (some ⟨bm, 0, none⟩)] W (SomeI W) := by
 obtain ⟨c0, c1, c2, c3, c4, c5, c6, c7, c8, c9, c10⟩ := MB.cells hM
 have hlt := hM.lt
 obtain ⟨b, off, A2, c2', hA, hb, x0, x1, x2, x3, x4, x5, x6, _⟩ := d.dI.item hi
 rw [hA] at c5
 have hiI : (i : Int) < (m.iT.length : Int) := by omega
 clear hA
 go_enter Tryz.func178, Tryz.ntmps178
 go_wp2_with (go_at_call 179; refine (itemKind_prog _ _).mono ?_; rintro e w1 ⟨n, rfl, rfl⟩)
 go_ret
 exact ⟨_, rfl, rfl⟩
theorem name_any (h : MH) (m : Mod) (bm B0 i j : Nat) (hj : j < 5) (W : World) (hM : Blk W bm 32 #[.slice h.s m.sT.length h.sc, .slice h.f m.fT.length h.fc, .slice h.r m.rT.length h.rc, .slice h.m m.mT.length h.mc, .slice h.l m.lT.length h.lc, .slice h.i m.iT.length h.ic, .int .i64 m.dT, .int .i64 m.oT, .int .i64 m.vT, .int .i64 m.aT, .slice h.u m.uT.length h.uc]) (d : MD W B0 h m) (hi : i < (nml m j).length) :
    Calls Tryz.prog (gNm j) (#[.int .i64 i] ++ #[.pointer (some ⟨bm, 0, none⟩)]) W fun e w' => e = .returned (.string (nml m j)[i]) ∧ W = w' := by
 match j, hj, hi with
 | 0, _, hi => exact name_0 h m bm B0 i W hM d hi d.sl
 | 1, _, hi => exact name_1 h m bm B0 i W hM d hi d.fl
 | 2, _, hi => simp [nml] at hi; simpa [nml, gNm] using name_2 h m bm B0 i W hM d hi d.rl
 | 3, _, hi => simp [nml] at hi; simpa [nml, gNm] using name_3 h m bm B0 i W hM d hi d.ml
 | 4, _, hi => simp [nml] at hi; simpa [nml, gNm] using name_4 h m bm B0 i W hM d hi d.il
theorem kind_any (h : MH) (m : Mod) (bm B0 i j : Nat) (hj : j < 5) (W : World) (hM : Blk W bm 32 #[.slice h.s m.sT.length h.sc, .slice h.f m.fT.length h.fc, .slice h.r m.rT.length h.rc, .slice h.m m.mT.length h.mc, .slice h.l m.lT.length h.lc, .slice h.i m.iT.length h.ic, .int .i64 m.dT, .int .i64 m.oT, .int .i64 m.vT, .int .i64 m.aT, .slice h.u m.uT.length h.uc]) (d : MD W B0 h m) (hi : i < (nml m j).length) :
    Calls Tryz.prog (gKd j) (#[.int .i64 i] ++ lKd j bm) W (SomeI W) := by
 match j, hj, hi with
 | 0, _, hi => exact kind_0 i W
 | 1, _, hi => exact kind_1 i W
 | 2, _, hi => exact kind_2 i W
 | 3, _, hi => exact kind_3 i W
 | 4, _, hi => simp [nml] at hi; exact kind_4 h m bm B0 i W hM d hi d.il
theorem enter_nm (j : Nat) (hj : j < 5) : ∀ args w, (callFunc (gNm j) args).run Tryz.prog w = .ok (.enter (gNm j) args) w := by
 match j, hj with
 | 0, _ => exact (show ∀ args w, (callFunc 169 args).run Tryz.prog w = .ok (.enter 169 args) w from fun args w => by kernel_rfl)
 | 1, _ => exact (show ∀ args w, (callFunc 171 args).run Tryz.prog w = .ok (.enter 171 args) w from fun args w => by kernel_rfl)
 | 2, _ => exact (show ∀ args w, (callFunc 173 args).run Tryz.prog w = .ok (.enter 173 args) w from fun args w => by kernel_rfl)
 | 3, _ => exact (show ∀ args w, (callFunc 175 args).run Tryz.prog w = .ok (.enter 175 args) w from fun args w => by kernel_rfl)
 | 4, _ => exact (show ∀ args w, (callFunc 177 args).run Tryz.prog w = .ok (.enter 177 args) w from fun args w => by kernel_rfl)
theorem enter_kd (j : Nat) (hj : j < 5) : ∀ args w, (callFunc (gKd j) args).run Tryz.prog w = .ok (.enter (gKd j) args) w := by
 match j, hj with
 | 0, _ => exact (show ∀ args w, (callFunc 170 args).run Tryz.prog w = .ok (.enter 170 args) w from fun args w => by kernel_rfl)
 | 1, _ => exact (show ∀ args w, (callFunc 172 args).run Tryz.prog w = .ok (.enter 172 args) w from fun args w => by kernel_rfl)
 | 2, _ => exact (show ∀ args w, (callFunc 174 args).run Tryz.prog w = .ok (.enter 174 args) w from fun args w => by kernel_rfl)
 | 3, _ => exact (show ∀ args w, (callFunc 176 args).run Tryz.prog w = .ok (.enter 176 args) w from fun args w => by kernel_rfl)
 | 4, _ => exact (show ∀ args w, (callFunc 178 args).run Tryz.prog w = .ok (.enter 178 args) w from fun args w => by kernel_rfl)
def listCells (m : Mod) (bm : Nat) (j : Nat) : List Value := [.int .i64 ((nml m j).length : Int), .func (.func (gNm j)) #[] #[.pointer (some ⟨bm, 0, none⟩)], .func (.func (gKd j)) #[] (lKd j bm)]
theorem MD.but {w w' : World} {B0 g B : Nat} {h : MH} {m : Mod} (d : MD w B0 h m) (hb : But g B w w') (h1 : B0 ≤ B) (h2 : B0 ≤ g) : MD w' B0 h m := d.below (hb.below2 h1 h2)
theorem Blk.eqCells {w : World} {g : Nat} {t : TypeId} {cs cs' : Array Value} (h : Blk w g t cs) (e : cs = cs') : Blk w g t cs' := e ▸ h
structure EachS (w : World) (bo B0 : Nat) (h : MH) (m : Mod) (L : List ByteArray) (wr : World) : Prop where
 coll : Coll w.heap.size bo wr L
 but : But bo w.heap.size w wr
 bm : Blk wr w.heap.size 32 #[.slice h.s m.sT.length h.sc, .slice h.f m.fT.length h.fc, .slice h.r m.rT.length h.rc, .slice h.m m.mT.length h.mc, .slice h.l m.lT.length h.lc, .slice h.i m.iT.length h.ic, .int .i64 m.dT, .int .i64 m.oT, .int .i64 m.vT, .int .i64 m.aT, .slice h.u m.uT.length h.uc]
 bl : Blk wr (w.heap.size + 1) 176 ((listCells m w.heap.size 0 ++ listCells m w.heap.size 1 ++ listCells m w.heap.size 2 ++ listCells m w.heap.size 3 ++ listCells m w.heap.size 4).toArray)
 d : MD wr B0 h m
theorem EachS.grow {w wr w2 : World} {bo B0 : Nat} {h : MH} {m : Mod} {L : List ByteArray} (s : EachS w bo B0 h m L wr) (hb : Below wr.heap.size wr w2) (hB : B0 ≤ w.heap.size) : EachS w bo B0 h m L w2 :=
 ⟨s.coll.keep hb, s.but.trans (But.ofBelow (hb.mono s.but.size)), s.bm.below hb s.bm.lt, s.bl.below hb s.bl.lt, s.d.below (hb.mono (Nat.le_trans hB s.but.size))⟩
theorem EachS.one {w wr w2 : World} {bo B0 : Nat} {h : MH} {m : Mod} {L L2 : List ByteArray} {e : Ending} (s : EachS w bo B0 h m L wr) (hc : CollP w.heap.size bo L2 wr e w2) (hB : B0 ≤ w.heap.size) (h2 : B0 ≤ bo) (h3 : bo < w.heap.size) : EachS w bo B0 h m L2 w2 :=
 ⟨hc.2.1, s.but.trans hc.2.2.1, hc.2.2.2 _ _ _ (by omega) (by decide) s.bm, hc.2.2.2 _ _ _ (by omega) (by decide) s.bl, s.d.but hc.2.2.1 hB h2⟩
theorem EachS.list {w wr : World} {bo B0 : Nat} {h : MH} {m : Mod} {L : List ByteArray} (s : EachS w bo B0 h m L wr) {j : Nat} (hj : j < 5) :
    wr.cell? ⟨w.heap.size + 1, j * 3, none⟩ = some (.int .i64 ((nml m j).length : Int)) ∧ wr.cell? ⟨w.heap.size + 1, j * 3 + 1, none⟩ = some (.func (.func (gNm j)) #[] #[.pointer (some ⟨w.heap.size, 0, none⟩)]) ∧ wr.cell? ⟨w.heap.size + 1, j * 3 + 2, none⟩ = some (.func (.func (gKd j)) #[] (lKd j w.heap.size)) := by
 have hc := fun i => s.bl.cell i
 match j, hj with
 | 0, _ => exact ⟨hc 0, hc 1, hc 2⟩
 | 1, _ => exact ⟨hc 3, hc 4, hc 5⟩
 | 2, _ => exact ⟨hc 6, hc 7, hc 8⟩
 | 3, _ => exact ⟨hc 9, hc 10, hc 11⟩
 | 4, _ => exact ⟨hc 12, hc 13, hc 14⟩
theorem nml_len {m : Mod} (q1 : m.sT.length ≤ 100) (q2 : m.fT.length ≤ 100) (q3 : m.rT.length ≤ 100) (q4 : m.mT.length ≤ 100) (q5 : m.iT.length ≤ 100) (j : Nat) : (nml m j).length ≤ 100 := by
 match j with
 | 0 => exact q1
 | 1 => exact q2
 | 2 => simpa [nml] using q3
 | 3 => simpa [nml] using q4
 | n + 4 => simpa [nml] using q5
theorem preN_len {m : Mod} (h : ∀ j, (nml m j).length ≤ 100) : ∀ j, (preN m j).length ≤ 100 * j
 | 0 => by simp [preN]
 | j + 1 => by
   have := preN_len h j
   have := h j
   rw [← preN_succ, List.length_append]; omega
theorem listAll (m : Mod) (w : World) : (#[.int .i64 m.sT.length, .func (.func 169) #[] #[.pointer (some ⟨w.heap.size, 0, none⟩)], .func (.func 170) #[] #[], .int .i64 m.fT.length, .func (.func 171) #[] #[.pointer (some ⟨w.heap.size, 0, none⟩)], .func (.func 172) #[] #[], .int .i64 m.rT.length, .func (.func 173) #[] #[.pointer (some ⟨w.heap.size, 0, none⟩)], .func (.func 174) #[] #[], .int .i64 m.mT.length, .func (.func 175) #[] #[.pointer (some ⟨w.heap.size, 0, none⟩)], .func (.func 176) #[] #[], .int .i64 m.iT.length, .func (.func 177) #[] #[.pointer (some ⟨w.heap.size, 0, none⟩)], .func (.func 178) #[] #[.pointer (some ⟨w.heap.size, 0, none⟩)]] : Array Value) = ((listCells m w.heap.size 0 ++ listCells m w.heap.size 1 ++ listCells m w.heap.size 2 ++ listCells m w.heap.size 3 ++ listCells m w.heap.size 4).toArray) := by simp [listCells, nml, gNm, gKd, lKd]
theorem two_blocks (w : World) (c1 c2 : Array Value) (t1 t2 : TypeId) : Below w.heap.size w ((w.alloc (.cells c1 t1)).alloc (.cells c2 t2)) := ((Below.refl _ _).alloc (Nat.le_refl _) _).alloc (by simp) _
theorem each_names (h : MH) (m : Mod) (bo B0 : Nat) (w : World) (d : MD w B0 h m) (h0 : B0 ≤ bo) (hC : Coll w.heap.size bo w []) (hbo : bo < w.heap.size)
    (q1 : m.sT.length ≤ 100) (q2 : m.fT.length ≤ 100) (q3 : m.rT.length ≤ 100) (q4 : m.mT.length ≤ 100) (q5 : m.iT.length ≤ 100) :
    Calls Tryz.prog 121 #[.agg #[.slice h.s m.sT.length h.sc, .slice h.f m.fT.length h.fc, .slice h.r m.rT.length h.rc, .slice h.m m.mT.length h.mc, .slice h.l m.lT.length h.lc, .slice h.i m.iT.length h.ic, .int .i64 m.dT, .int .i64 m.oT, .int .i64 m.vT, .int .i64 m.aT, .slice h.u m.uT.length h.uc], .func (.func 122) #[] #[.pointer (some ⟨bo, 0, none⟩)]] w
     fun e w' => e = .returned (.tuple #[]) ∧ Coll w.heap.size bo w' (nameList m) ∧ But bo w.heap.size w w' := by
 have hln := nml_len q1 q2 q3 q4 q5
 have hlp := preN_len hln
 have HLN := hide hln
 have HLP := hide hlp
 have hB2 := two_blocks w #[.slice h.s m.sT.length h.sc, .slice h.f m.fT.length h.fc, .slice h.r m.rT.length h.rc, .slice h.m m.mT.length h.mc, .slice h.l m.lT.length h.lc, .slice h.i m.iT.length h.ic, .int .i64 m.dT, .int .i64 m.oT, .int .i64 m.vT, .int .i64 m.aT, .slice h.u m.uT.length h.uc] #[.int .i64 m.sT.length, .func (.func 169) #[] #[.pointer (some ⟨w.heap.size, 0, none⟩)], .func (.func 170) #[] #[], .int .i64 m.fT.length, .func (.func 171) #[] #[.pointer (some ⟨w.heap.size, 0, none⟩)], .func (.func 172) #[] #[], .int .i64 m.rT.length, .func (.func 173) #[] #[.pointer (some ⟨w.heap.size, 0, none⟩)], .func (.func 174) #[] #[], .int .i64 m.mT.length, .func (.func 175) #[] #[.pointer (some ⟨w.heap.size, 0, none⟩)], .func (.func 176) #[] #[], .int .i64 m.iT.length, .func (.func 177) #[] #[.pointer (some ⟨w.heap.size, 0, none⟩)], .func (.func 178) #[] #[.pointer (some ⟨w.heap.size, 0, none⟩)]] 32 176
 have hS0 : EachS w bo B0 h m (preN m 0) ((w.alloc (.cells #[.slice h.s m.sT.length h.sc, .slice h.f m.fT.length h.fc, .slice h.r m.rT.length h.rc, .slice h.m m.mT.length h.mc, .slice h.l m.lT.length h.lc, .slice h.i m.iT.length h.ic, .int .i64 m.dT, .int .i64 m.oT, .int .i64 m.vT, .int .i64 m.aT, .slice h.u m.uT.length h.uc] 32)).alloc (.cells #[.int .i64 m.sT.length, .func (.func 169) #[] #[.pointer (some ⟨w.heap.size, 0, none⟩)], .func (.func 170) #[] #[], .int .i64 m.fT.length, .func (.func 171) #[] #[.pointer (some ⟨w.heap.size, 0, none⟩)], .func (.func 172) #[] #[], .int .i64 m.rT.length, .func (.func 173) #[] #[.pointer (some ⟨w.heap.size, 0, none⟩)], .func (.func 174) #[] #[], .int .i64 m.mT.length, .func (.func 175) #[] #[.pointer (some ⟨w.heap.size, 0, none⟩)], .func (.func 176) #[] #[], .int .i64 m.iT.length, .func (.func 177) #[] #[.pointer (some ⟨w.heap.size, 0, none⟩)], .func (.func 178) #[] #[.pointer (some ⟨w.heap.size, 0, none⟩)]] 176)) :=
  ⟨hC.keep hB2, But.ofBelow hB2, (Blk.new _ _ _).alloc _, Blk.eqCells (by simpa using Blk.new (w.alloc (.cells #[.slice h.s m.sT.length h.sc, .slice h.f m.fT.length h.fc, .slice h.r m.rT.length h.rc, .slice h.m m.mT.length h.mc, .slice h.l m.lT.length h.lc, .slice h.i m.iT.length h.ic, .int .i64 m.dT, .int .i64 m.oT, .int .i64 m.vT, .int .i64 m.aT, .slice h.u m.uT.length h.uc] 32)) _ _) (listAll m w), d.below (hB2.mono (by omega))⟩
 have HS0 := hide hS0
 have eN := fun j (hj : j < 5) => enter_nm j hj
 have eK := fun j (hj : j < 5) => enter_kd j hj
 have EN := hide eN
 have EK := hide eK
 clear hln hlp hB2 hS0 eN eK hC d q1 q2 q3 q4 q5
 go_enter Tryz.func121, Tryz.ntmps121
 go_wp2_with fail
 go_loopw [37] (fun i wr => ∃ j : Nat, j ≤ 5 ∧ i = .int .i64 j ∧ Hid (EachS w bo B0 h m (preN m j) wr)) (fun i _ => 5 - (intOf i).toNat)
 case atStart => exact ⟨0, by omega, rfl, HS0⟩
 case round =>
  clear HS0
  obtain ⟨j, hj, rfl, hs⟩ := hrel
  obtain ⟨wo, rfl⟩ : ∃ wo : World, wo = wr := ⟨_, rfl⟩
  by_cases hlt : j < 5
  · obtain ⟨x0, x1, x2⟩ := hs.out.list hlt
    have hltI : (j : Int) < 5 := by omega
    have hbl := hs.out.bl.lt
    go_wp2_with fail
    have HS1 := hide (hs.out.grow ((Below.refl _ _).alloc (Nat.le_refl _) (.cells #[.int .i64 ((nml m j).length : Int), .func (.func (gNm j)) #[] #[.pointer (some ⟨w.heap.size, 0, none⟩)], .func (.func (gKd j)) #[] (lKd j w.heap.size)] 176)) (by omega))
    have HT1 := hide (Blk.new wo 176 #[.int .i64 ((nml m j).length : Int), .func (.func (gNm j)) #[] #[.pointer (some ⟨w.heap.size, 0, none⟩)], .func (.func (gKd j)) #[] (lKd j w.heap.size)])
    have hwo := hs.out.but.size
    clear x0 x1 x2
    go_loopw [43] (fun i wr => ∃ k : Nat, k ≤ (nml m j).length ∧ i = .int .i64 k ∧ Hid (EachS w bo B0 h m (preN m j ++ (nml m j).take k) wr) ∧ Hid (Blk wr wo.heap.size 176 #[.int .i64 ((nml m j).length : Int), .func (.func (gNm j)) #[] #[.pointer (some ⟨w.heap.size, 0, none⟩)], .func (.func (gKd j)) #[] (lKd j w.heap.size)])) (fun i _ => (nml m j).length - (intOf i).toNat)
    case atStart => exact ⟨0, by omega, rfl, by rw [List.take_zero, List.append_nil]; exact HS1, HT1⟩
    case round =>
     clear HS1 HT1
     obtain ⟨k, hk, rfl, hs2, hT⟩ := hrel
     have hn := HLN.out j
     by_cases hkl : k < (nml m j).length
     · have y1 := hT.out.cell 1
       have y2 := hT.out.cell 2
       have ylt := hT.out.lt
       simp at y1 y2
       have hsd := hs2.out.grow (below_drawn (Below.refl _ wr) 1) (by omega)
       have HD := hide hsd
       have HN := hide (show Calls Tryz.prog (gNm j) #[.int .i64 k, .pointer (some ⟨w.heap.size, 0, none⟩)] wr.drew (fun e w' => e = .returned (.string (nml m j)[k]) ∧ wr.drew = w') from name_any h m w.heap.size B0 k j hlt (wr.drewN 1) hsd.bm hsd.d hkl)
       have HK := hide (show Calls Tryz.prog (gKd j) (#[.int .i64 k] ++ lKd j w.heap.size) wr.drew (SomeI wr.drew) from kind_any h m w.heap.size B0 k j hlt (wr.drewN 1) hsd.bm hsd.d hkl)
       have hlen : (preN m j ++ (nml m j).take k).length ≤ 1000 := by
        have := HLP.out j
        rw [List.length_append, List.length_take]; omega
       have HO := hide (show ∀ n, Calls Tryz.prog 122 #[.string (nml m j)[k], .int .i64 n, .int .i64 ((k : Int) + 1), .pointer (some ⟨bo, 0, none⟩)] wr.drew (CollP w.heap.size bo (preN m j ++ (nml m j).take k ++ [(nml m j)[k]]) wr.drew) from fun n => names_one w.heap.size bo (nml m j)[k] n ((k : Int) + 1) (preN m j ++ (nml m j).take k) (wr.drewN 1) hsd.coll hbo hlen hsd.but.size)
       have HE := hide (show preN m j ++ (nml m j).take k ++ [(nml m j)[k]] = preN m j ++ (nml m j).take (k + 1) by rw [List.take_succ_eq_append_getElem hkl, List.append_assoc])
       have eN := EN.out j hlt
       have eK := EK.out j hlt
       have hw1 : IntKind.i64.wrap ((k : Int) + 1) = (k : Int) + 1 := IntWalk.i64_in _ (by omega)
       clear hsd hlen
       go_wp2_with fail
       go_region_with ((first
        | ((with_reducible refine Calls.mono HN.out ?_); rintro e w1 ⟨rfl, rfl⟩)
        | ((with_reducible refine Calls.mono HK.out ?_); rintro e w1 ⟨n, rfl, rfl⟩)
        | ((with_reducible refine Calls.mono (HO.out n) ?_); rintro e w9 hc9; have hS9 := HD.out.one hc9 (by omega) h0 hbo; have hT9 := hc9.2.2.2 _ _ _ (by omega) (by decide) (hT.out.drewN 1); obtain ⟨rfl, _⟩ := hc9)))
       all_goals
        rw [HE.out] at hS9
        go_wp2_with fail
        go_roundw
        case rel => exact ⟨k + 1, by omega, by go_num, hS9, hT9⟩
        case measure => simp [intOf]; omega
     · obtain rfl : k = (nml m j).length := by omega
       have HE := hide (show preN m j ++ (nml m j).take (nml m j).length = preN m (j + 1) by rw [List.take_length, preN_succ])
       go_wp2_with fail
       go_roundw
       case rel => exact ⟨j + 1, by omega, by go_num, by rw [← HE.out]; exact hs2⟩
       case measure => simp [intOf]; omega
  · obtain rfl : j = 5 := by omega
    go_wp2_with fail
    go_end0
    refine ⟨rfl, ?_, hs.out.but⟩
    have := hs.out.coll
    rwa [preN_5] at this
theorem Strs.take_ {w : World} {B : Nat} {A : Option Addr} {l : List ByteArray} (h : Strs w B A l) {k : Nat} (hk : k ≤ l.length) : Strs w B A (l.take k) := by
 refine ⟨by simp, fun hn => ?_⟩
 have hl : (l.take k).length = k := by simp; omega
 obtain ⟨ad, e, hb, hc⟩ := h.2 (by omega)
 refine ⟨ad, e, hb, fun j u hu => hc j u ?_⟩
 rw [List.getElem?_map] at hu ⊢
 by_cases hj : j < k
 · rwa [List.getElem?_take_of_lt hj] at hu
 · rw [List.getElem?_eq_none (by simp; omega)] at hu; cases hu
theorem namesB_ref (h : MH) (m : Mod) (w : World) (d : MD w w.heap.size h m) (q1 : m.sT.length ≤ 100) (q2 : m.fT.length ≤ 100) (q3 : m.rT.length ≤ 100) (q4 : m.mT.length ≤ 100) (q5 : m.iT.length ≤ 100)
    (hfit : ∀ s ∈ nameList m, s.size ≤ 9223372036854775807) :
    Calls Tryz.prog 42 #[.agg #[.slice h.s m.sT.length h.sc, .slice h.f m.fT.length h.fc, .slice h.r m.rT.length h.rc, .slice h.m m.mT.length h.mc, .slice h.l m.lT.length h.lc, .slice h.i m.iT.length h.ic, .int .i64 m.dT, .int .i64 m.oT, .int .i64 m.vT, .int .i64 m.aT, .slice h.u m.uT.length h.uc]] w fun e w' => e = .returned (.bool (namesB m)) ∧ Below w.heap.size w w' := by
 have HC := hide (names15_ref h m (w.alloc (.cells #[.slice h.s m.sT.length h.sc, .slice h.f m.fT.length h.fc, .slice h.r m.rT.length h.rc, .slice h.m m.mT.length h.mc, .slice h.l m.lT.length h.lc, .slice h.i m.iT.length h.ic, .int .i64 m.dT, .int .i64 m.oT, .int .i64 m.vT, .int .i64 m.aT, .slice h.u m.uT.length h.uc] 32)) ((MW.start w h m).md d) q1 q2 q3 q4 q5)
 have hlen : (nameList m).length ≤ 600 := by rw [← nmI_all]; exact (nm_len q1 q2 q3 q4 q5 _).2.2
 have HN := hide (show namesB m = soundB (fun s pre => isName s && !hasS pre s) (nameList m) from rfl)
 clear q1 q2 q3 q4 q5 d
 generalize nameList m = L at HC hfit hlen HN
 go_enter Tryz.func42, Tryz.ntmps42
 go_wp2_with (go_at_call 90; refine HC.out.mono ?_; rintro e w1 ⟨A, c, rfl, hc, hS, hb1⟩)
 have hB1 := hide (((Below.refl _ _).alloc (Nat.le_refl _) (.cells #[.slice h.s m.sT.length h.sc, .slice h.f m.fT.length h.fc, .slice h.r m.rT.length h.rc, .slice h.m m.mT.length h.mc, .slice h.l m.lT.length h.lc, .slice h.i m.iT.length h.ic, .int .i64 m.dT, .int .i64 m.oT, .int .i64 m.vT, .int .i64 m.aT, .slice h.u m.uT.length h.uc] 32)).trans (hb1.mono (by simp)) : Below w.heap.size w w1)
 clear hb1
 go_loopw [4] (fun i wr => ∃ k : Nat, k ≤ L.length ∧ i = .int .i64 k ∧ Hid (Below w.heap.size w wr) ∧ Hid (Strs wr wr.heap.size A L) ∧ Hid (∀ j (hj : j < L.length), j < k → (isName L[j] && !hasS (L.take j) L[j]) = true)) (fun i _ => L.length - (intOf i).toNat)
 case atStart => exact ⟨0, Nat.zero_le _, rfl, hB1, hS, fun j hj h0 => absurd h0 (by omega)⟩
 case round =>
  obtain ⟨k, hk, rfl, hB, hS, hs⟩ := hrel
  clear HC
  by_cases hlt : k < L.length
  · obtain ⟨b, off, hA, hb, x0⟩ := str_at hS.out hlt
    subst hA
    have hltI : (k : Int) < (L.length : Int) := by omega
    have hfk := hfit _ (List.getElem_mem hlt)
    have hkc : (k : Int) ≤ (c : Int) := by omega
    cases e1 : isName L[k]
    · have HV := hide (HN.out.trans (soundB_false (p := fun s pre => isName s && !hasS pre s) hlt (by simp [e1])))
      have hU : undef = Value.tuple #[] := rfl
      go_wp2_with fail
      first | (go_region_with ((go_at_call 48; refine (isName_ref L[k] _ hfk).mono ?_; rintro e w2 ⟨rfl, hb2⟩))) | fail
      all_goals
       go_wp2_with fail
       go_ret
       exact ⟨ret_congr (by rw [HV.out]; rfl), hB.out.drew.trans (hb2.mono hB.out.size)⟩
    cases e2 : hasS (L.take k) L[k]
    all_goals
     have hlt2 : (L.take k).length = k := by simp; omega
     have HT := hide hlt2
     have HH := hide fun (X : World) (hX : Below wr.heap.size wr X) => has_any (some ⟨b, off, none⟩) c (L.take k) L[k] X (by omega) ((hS.out.grow hX).take_ hk)
     rw [e2, hlt2] at HH
     clear hlt2
     go_wp2_with fail
     first | (go_region_held3 (fun X => X.cell? ⟨b, off + k, none⟩ = some (.string L[k]) ∧ Below wr.heap.size wr X) ((first | (go_keep; done) | (refine ⟨?_, ?_⟩ <;> (first | assumption | exact (Below.refl _ _).drew | exact x0))))
      ((first
        | (go_at_call 48; have hH := (by assumption : _ ∧ Below wr.heap.size wr _); obtain ⟨a0, aB⟩ := hH; refine (isName_ref L[k] _ hfk).mono ?_; rintro e w2 ⟨rfl, hb2⟩; have c0 := (hb2.cell (p := ⟨b, off + k, none⟩) (Nat.lt_of_lt_of_le hb aB.size)).trans a0; have cB := aB.trans (hb2.mono aB.size); clear a0 aB hb2)
        | (go_at_call 21; refine (HH.out _ (by assumption)).mono ?_; rintro e w3 ⟨rfl, rfl⟩)))) | fail
    · have HK := hide (show (isName L[k] && !hasS (L.take k) L[k]) = true by rw [e1, e2]; rfl)
      all_goals
       go_wp2_with fail
       go_roundw
       case rel => exact ⟨k + 1, by omega, by go_num, hide (hB.out.trans (cB.mono hB.out.size)), hide (hS.out.grow cB), fun q hq' h1 => by
        rcases Nat.lt_or_ge q k with h2 | h2
        · exact hs q hq' h2
        · obtain rfl : q = k := by omega
          exact HK⟩
       case measure => simp [intOf]; omega
    · have HV := hide (HN.out.trans (soundB_false (p := fun s pre => isName s && !hasS pre s) hlt (by simp [e2])))
      all_goals
       go_wp2_with fail
       go_ret
       exact ⟨ret_congr (by rw [HV.out]; rfl), hB.out.trans (cB.mono hB.out.size)⟩
  · have HV := hide (HN.out.trans (soundB_true (p := fun s pre => isName s && !hasS pre s) fun q hq => hs.out q hq (by omega)))
    go_wp2_with fail
    go_ret
    exact ⟨ret_congr (by rw [HV.out]; rfl), hB.out⟩
end Go.Proofs.YtcfogipaadhbeaaGreatDoor
