/- A part of the claim: see its last text. -/
import Derived.Test.YtmjcgcnpeoemdaaGreatDoorUK04
import Derived.Test.YtmjcgcnpeoemdaaGreatDoorUK05
import Derived.Test.YtmjcgcnpeoemdaaGreatDoorUK03
import Derived.Test.YtmjcgcnpeoemdaaGreatDoorUK01

set_option maxRecDepth 100000
set_option maxHeartbeats 16000000
namespace Go.Proofs.YtmjcgcnpeoemdaaGreatDoor
open Go Go.RowKit Go.Proofs
theorem But.below2 {g B B' : Nat} {w w' : World} (h : But g B w w') (h1 : B' ≤ B) (h2 : B' ≤ g) : Below B' w w' := ⟨h.os, h.tape, h.output, h.size, fun k hk => h.block k (Nat.lt_of_lt_of_le hk h1) (by omega)⟩
theorem But.drewN {g B : Nat} {w w' : World} (h : But g B w w') (n : Nat) : But g B w (w'.drewN n) := h.trans (But.ofBelow (below_drawn (Below.refl _ _) n))
structure Coll (B bo : Nat) (w : World) (l : List ByteArray) : Prop where
 ex : ∃ v, Blk w bo 22 #[v] ∧ OwnS B w v l
theorem Coll.keep {B bo : Nat} {w w' : World} {l : List ByteArray} (h : Coll B bo w l) (hb : Below w.heap.size w w') : Coll B bo w' l := by
 obtain ⟨v, h1, h2⟩ := h.ex
 exact ⟨v, h1.below hb h1.lt, h2.below hb⟩
theorem Coll.drewN {B bo : Nat} {w : World} {l : List ByteArray} (h : Coll B bo w l) (n : Nat) : Coll B bo (w.drewN n) l := by
 obtain ⟨v, h1, h2⟩ := h.ex
 exact ⟨v, h1.drewN n, h2.below (below_drawn (Below.refl _ _) n)⟩
def CollP (B bo : Nat) (l : List ByteArray) (w : World) (e : Ending) (w' : World) : Prop :=
 e = .returned (.bool false) ∧ Coll B bo w' l ∧ But bo B w w' ∧ ∀ (k : Nat) (T : TypeId) (cs : Array Value), k ≠ bo → T ≠ 9 → Blk w k T cs → Blk w' k T cs
theorem names_one (B bo : Nat) (s : ByteArray) (a b : Int) (l : List ByteArray) (w : World) (h : Coll B bo w l) (hbo : bo < B) (hlen : l.length ≤ 1000) (hB : B ≤ w.heap.size) :
    Calls Tryz.prog 82 #[.string s, .int .i64 a, .int .i64 b, .pointer (some ⟨bo, 0, none⟩)] w (CollP B bo (l ++ [s]) w) := by
 obtain ⟨v, h1, h2⟩ := h.ex
 have x0 := h1.cell 0
 have f0 := h1.frozen 0
 have hlt := h1.lt
 simp at x0
 go_enter Tryz.func82, Tryz.ntmps82
 go_wp2_with (at_builtin; refine append_strs rfl _ _ rfl B _ l rfl (h2.alloc _) _ _ 1 [s] rfl (Strs.newRow2 w 9 [s] rfl) (by simp; omega) (by simp; omega) ?_; intro v3 x3 hO3 hg3 _
              have hg : (w.alloc (.cells #[.string s] 9)).grownBy x3 v.ownBlock := hg3
              have hv := fun k hk => (h2.lt k hk).1
              have h13 : Blk x3 bo 22 #[v] := (h1.alloc _).grown hg (fun e => by have := hv _ e.symm; omega)
              have y0 := h13.cell 0
              have g0 := h13.frozen 0
              have hlt3 := h13.lt
              simp at y0
              obtain ⟨A3, c3, hv3, _, _⟩ := hO3.form3
              obtain ⟨n3, hn3⟩ : ∃ n3, n3 = (l ++ [s]).length := ⟨_, rfl⟩
              rw [← hn3] at hv3
              clear hn3 hg3
              subst hv3)
 go_ret
 refine ⟨rfl, ⟨_, by have := h13.set_ 0 (.slice A3 n3 c3); simpa using this, ?_⟩, ⟨hg.os, hg.tape, hg.output, ?_, fun k hkB hne => ?_⟩, fun k T cs hne hT hk => ?_⟩
 · exact hO3.kept ⟨rfl, rfl, rfl, by simp, fun k hk hne => Below.heap_setCell _ _ _ k (fun e => hne (by rw [e]))⟩ (.inr (fun e => by have := (hO3.lt _ e).1; omega)) (row := some bo)
 · have := hg.size; simp at this ⊢; omega
 · have e1 := Below.heap_setCell x3 ⟨bo, 0, none⟩ (.slice A3 n3 c3) k hne
   have e2 := hg.block k (by simp; omega) (fun e => by have := hv _ e.symm; omega)
   exact (e1.trans e2).trans (Below.heap_alloc w _ k (by omega))
 · have hk1 : Blk (w.alloc (.cells #[.string s] 9)) k T cs := hk.alloc _
   have hk2 : Blk x3 k T cs := hk1.grown hg (fun e => by
    rcases h2.2 with ⟨rfl, _⟩ | ⟨g, cap, cur, rfl, _, hh, _⟩
    · cases e
    · obtain rfl : k = g := Option.some.inj e
      rw [show w.heap[k]? = some (.cells cs T (0, 0)) from hk] at hh
      simp at hh
      exact hT hh.2)
   exact hk2.far (p := ⟨bo, 0, none⟩) hne _
def SomeI (W : World) (e : Ending) (w' : World) : Prop := ∃ n : Int, e = .returned (.int .i64 n) ∧ W = w'
def nml (m : Mod) (j : Nat) : List ByteArray := match j with | 0 => m.sT | 1 => m.fT | 2 => m.rT.map (·.name) | 3 => m.mT.map (·.name) | _ => m.iT.map (·.name)
def gNm (j : Nat) : Nat := match j with | 0 => 110 | 1 => 112 | 2 => 114 | 3 => 116 | _ => 118
def gKd (j : Nat) : Nat := match j with | 0 => 111 | 1 => 113 | 2 => 115 | 3 => 117 | _ => 119
def lKd (j bm : Nat) : Array Value := match j with | 4 => #[.pointer (some ⟨bm, 0, none⟩)] | _ => #[]
def preN (m : Mod) (j : Nat) : List ByteArray := (List.range j).flatMap (nml m)
theorem preN_succ (m : Mod) (j : Nat) : preN m j ++ nml m j = preN m (j + 1) := by simp [preN, List.range_succ]
theorem preN_5 (m : Mod) : preN m 5 = nameList m := by simp [preN, nameList, nml, List.range_succ]
theorem itemKind_prog (k : Int) (w : World) : Calls Tryz.prog 120 #[.int .i64 k] w (SomeI w) := by
 go_enter Tryz.func120, Tryz.ntmps120
 go_wp2_with fail
 all_goals
  go_ret
  exact ⟨_, rfl, rfl⟩
theorem name_0 (h : MH) (m : Mod) (bm B0 i : Nat) (W : World) (hM : Blk W bm 29 #[.slice h.s m.sT.length h.sc, .slice h.f m.fT.length h.fc, .slice h.r m.rT.length h.rc, .slice h.m m.mT.length h.mc, .slice h.l m.lT.length h.lc, .slice h.i m.iT.length h.ic, .int .i64 m.dT, .int .i64 m.oT, .int .i64 m.vT, .int .i64 m.aT, .slice h.u m.uT.length h.uc]) (d : MD W B0 h m) (hi : i < m.sT.length) (_hl : m.sT.length ≤ 9223372036854775807) :
    Calls Tryz.prog 110 #[.int .i64 i, .pointer (some ⟨bm, 0, none⟩)] W fun e w' => e = .returned (.string m.sT[i]) ∧ W = w' := by
 obtain ⟨c0, c1, c2, c3, c4, c5, c6, c7, c8, c9, c10⟩ := MB.cells hM
 have hlt := hM.lt
 obtain ⟨b, off, hA, hb, x0⟩ := str_at d.dS hi
 rw [hA] at c0
 have hiI : (i : Int) < (m.sT.length : Int) := by omega
 clear hA
 go_enter Tryz.func110, Tryz.ntmps110
 go_wp2_with fail
 go_ret
 exact ⟨rfl, rfl⟩
theorem name_1 (h : MH) (m : Mod) (bm B0 i : Nat) (W : World) (hM : Blk W bm 29 #[.slice h.s m.sT.length h.sc, .slice h.f m.fT.length h.fc, .slice h.r m.rT.length h.rc, .slice h.m m.mT.length h.mc, .slice h.l m.lT.length h.lc, .slice h.i m.iT.length h.ic, .int .i64 m.dT, .int .i64 m.oT, .int .i64 m.vT, .int .i64 m.aT, .slice h.u m.uT.length h.uc]) (d : MD W B0 h m) (hi : i < m.fT.length) (_hl : m.fT.length ≤ 9223372036854775807) :
    Calls Tryz.prog 112 #[.int .i64 i, .pointer (some ⟨bm, 0, none⟩)] W fun e w' => e = .returned (.string m.fT[i]) ∧ W = w' := by
 obtain ⟨c0, c1, c2, c3, c4, c5, c6, c7, c8, c9, c10⟩ := MB.cells hM
 have hlt := hM.lt
 obtain ⟨b, off, hA, hb, x0⟩ := str_at d.dF hi
 rw [hA] at c1
 have hiI : (i : Int) < (m.fT.length : Int) := by omega
 clear hA
 go_enter Tryz.func112, Tryz.ntmps112
 go_wp2_with fail
 go_ret
 exact ⟨rfl, rfl⟩
theorem name_2 (h : MH) (m : Mod) (bm B0 i : Nat) (W : World) (hM : Blk W bm 29 #[.slice h.s m.sT.length h.sc, .slice h.f m.fT.length h.fc, .slice h.r m.rT.length h.rc, .slice h.m m.mT.length h.mc, .slice h.l m.lT.length h.lc, .slice h.i m.iT.length h.ic, .int .i64 m.dT, .int .i64 m.oT, .int .i64 m.vT, .int .i64 m.aT, .slice h.u m.uT.length h.uc]) (d : MD W B0 h m) (hi : i < m.rT.length) (_hl : m.rT.length ≤ 9223372036854775807) :
    Calls Tryz.prog 114 #[.int .i64 i, .pointer (some ⟨bm, 0, none⟩)] W fun e w' => e = .returned (.string m.rT[i].name) ∧ W = w' := by
 obtain ⟨c0, c1, c2, c3, c4, c5, c6, c7, c8, c9, c10⟩ := MB.cells hM
 have hlt := hM.lt
 obtain ⟨b, off, hA, hb, x0, x1, x2, _⟩ := d.dR.rack hi
 rw [hA] at c2
 have hiI : (i : Int) < (m.rT.length : Int) := by omega
 clear hA
 go_enter Tryz.func114, Tryz.ntmps114
 go_wp2_with fail
 go_ret
 exact ⟨rfl, rfl⟩
theorem name_3 (h : MH) (m : Mod) (bm B0 i : Nat) (W : World) (hM : Blk W bm 29 #[.slice h.s m.sT.length h.sc, .slice h.f m.fT.length h.fc, .slice h.r m.rT.length h.rc, .slice h.m m.mT.length h.mc, .slice h.l m.lT.length h.lc, .slice h.i m.iT.length h.ic, .int .i64 m.dT, .int .i64 m.oT, .int .i64 m.vT, .int .i64 m.aT, .slice h.u m.uT.length h.uc]) (d : MD W B0 h m) (hi : i < m.mT.length) (_hl : m.mT.length ≤ 9223372036854775807) :
    Calls Tryz.prog 116 #[.int .i64 i, .pointer (some ⟨bm, 0, none⟩)] W fun e w' => e = .returned (.string m.mT[i].name) ∧ W = w' := by
 obtain ⟨c0, c1, c2, c3, c4, c5, c6, c7, c8, c9, c10⟩ := MB.cells hM
 have hlt := hM.lt
 obtain ⟨b, off, hA, hb, x0, x1, x2, _⟩ := d.dM.mach hi
 rw [hA] at c3
 have hiI : (i : Int) < (m.mT.length : Int) := by omega
 clear hA
 go_enter Tryz.func116, Tryz.ntmps116
 go_wp2_with fail
 go_ret
 exact ⟨rfl, rfl⟩
theorem name_4 (h : MH) (m : Mod) (bm B0 i : Nat) (W : World) (hM : Blk W bm 29 #[.slice h.s m.sT.length h.sc, .slice h.f m.fT.length h.fc, .slice h.r m.rT.length h.rc, .slice h.m m.mT.length h.mc, .slice h.l m.lT.length h.lc, .slice h.i m.iT.length h.ic, .int .i64 m.dT, .int .i64 m.oT, .int .i64 m.vT, .int .i64 m.aT, .slice h.u m.uT.length h.uc]) (d : MD W B0 h m) (hi : i < m.iT.length) (_hl : m.iT.length ≤ 9223372036854775807) :
    Calls Tryz.prog 118 #[.int .i64 i, .pointer (some ⟨bm, 0, none⟩)] W fun e w' => e = .returned (.string m.iT[i].name) ∧ W = w' := by
 obtain ⟨c0, c1, c2, c3, c4, c5, c6, c7, c8, c9, c10⟩ := MB.cells hM
 have hlt := hM.lt
 obtain ⟨b, off, A2, c2, hA, hb, x0, x1, x2, x3, x4, x5, x6, _⟩ := d.dI.item hi
 rw [hA] at c5
 have hiI : (i : Int) < (m.iT.length : Int) := by omega
 clear hA
 go_enter Tryz.func118, Tryz.ntmps118
 go_wp2_with fail
 go_ret
 exact ⟨rfl, rfl⟩
theorem kind_0 (i : Nat) (W : World) : Calls Tryz.prog 111 #[.int .i64 i] W (SomeI W) := by
 go_enter Tryz.func111, Tryz.ntmps111
 go_wp2_with fail
 go_ret
 exact ⟨_, rfl, rfl⟩
theorem kind_1 (i : Nat) (W : World) : Calls Tryz.prog 113 #[.int .i64 i] W (SomeI W) := by
 go_enter Tryz.func113, Tryz.ntmps113
 go_wp2_with fail
 go_ret
 exact ⟨_, rfl, rfl⟩
theorem kind_2 (i : Nat) (W : World) : Calls Tryz.prog 115 #[.int .i64 i] W (SomeI W) := by
 go_enter Tryz.func115, Tryz.ntmps115
 go_wp2_with fail
 go_ret
 exact ⟨_, rfl, rfl⟩
theorem kind_3 (i : Nat) (W : World) : Calls Tryz.prog 117 #[.int .i64 i] W (SomeI W) := by
 go_enter Tryz.func117, Tryz.ntmps117
 go_wp2_with fail
 go_ret
 exact ⟨_, rfl, rfl⟩
theorem kind_4 (h : MH) (m : Mod) (bm B0 i : Nat) (W : World) (hM : Blk W bm 29 #[.slice h.s m.sT.length h.sc, .slice h.f m.fT.length h.fc, .slice h.r m.rT.length h.rc, .slice h.m m.mT.length h.mc, .slice h.l m.lT.length h.lc, .slice h.i m.iT.length h.ic, .int .i64 m.dT, .int .i64 m.oT, .int .i64 m.vT, .int .i64 m.aT, .slice h.u m.uT.length h.uc]) (d : MD W B0 h m) (hi : i < m.iT.length) (_hl : m.iT.length ≤ 9223372036854775807) :
    Calls Tryz.prog 119 #[.int .i64 i, .pointer (some ⟨bm, 0, none⟩)] W (SomeI W) := by
 obtain ⟨c0, c1, c2, c3, c4, c5, c6, c7, c8, c9, c10⟩ := MB.cells hM
 have hlt := hM.lt
 obtain ⟨b, off, A2, c2', hA, hb, x0, x1, x2, x3, x4, x5, x6, _⟩ := d.dI.item hi
 rw [hA] at c5
 have hiI : (i : Int) < (m.iT.length : Int) := by omega
 clear hA
 go_enter Tryz.func119, Tryz.ntmps119
 go_wp2_with (go_at_call 120; refine (itemKind_prog _ _).mono ?_; rintro e w1 ⟨n, rfl, rfl⟩)
 go_ret
 exact ⟨_, rfl, rfl⟩
theorem name_any (h : MH) (m : Mod) (bm B0 i j : Nat) (hj : j < 5) (W : World) (hM : Blk W bm 29 #[.slice h.s m.sT.length h.sc, .slice h.f m.fT.length h.fc, .slice h.r m.rT.length h.rc, .slice h.m m.mT.length h.mc, .slice h.l m.lT.length h.lc, .slice h.i m.iT.length h.ic, .int .i64 m.dT, .int .i64 m.oT, .int .i64 m.vT, .int .i64 m.aT, .slice h.u m.uT.length h.uc]) (d : MD W B0 h m) (hi : i < (nml m j).length) :
    Calls Tryz.prog (gNm j) (#[.int .i64 i] ++ #[.pointer (some ⟨bm, 0, none⟩)]) W fun e w' => e = .returned (.string (nml m j)[i]) ∧ W = w' := by
 match j, hj, hi with
 | 0, _, hi => exact name_0 h m bm B0 i W hM d hi d.sl
 | 1, _, hi => exact name_1 h m bm B0 i W hM d hi d.fl
 | 2, _, hi => simp [nml] at hi; simpa [nml, gNm] using name_2 h m bm B0 i W hM d hi d.rl
 | 3, _, hi => simp [nml] at hi; simpa [nml, gNm] using name_3 h m bm B0 i W hM d hi d.ml
 | 4, _, hi => simp [nml] at hi; simpa [nml, gNm] using name_4 h m bm B0 i W hM d hi d.il
theorem kind_any (h : MH) (m : Mod) (bm B0 i j : Nat) (hj : j < 5) (W : World) (hM : Blk W bm 29 #[.slice h.s m.sT.length h.sc, .slice h.f m.fT.length h.fc, .slice h.r m.rT.length h.rc, .slice h.m m.mT.length h.mc, .slice h.l m.lT.length h.lc, .slice h.i m.iT.length h.ic, .int .i64 m.dT, .int .i64 m.oT, .int .i64 m.vT, .int .i64 m.aT, .slice h.u m.uT.length h.uc]) (d : MD W B0 h m) (hi : i < (nml m j).length) :
    Calls Tryz.prog (gKd j) (#[.int .i64 i] ++ lKd j bm) W (SomeI W) := by
 match j, hj, hi with
 | 0, _, hi => exact kind_0 i W
 | 1, _, hi => exact kind_1 i W
 | 2, _, hi => exact kind_2 i W
 | 3, _, hi => exact kind_3 i W
 | 4, _, hi => simp [nml] at hi; exact kind_4 h m bm B0 i W hM d hi d.il
theorem enter_nm (j : Nat) (hj : j < 5) : ∀ args w, (callFunc (gNm j) args).run Tryz.prog w = .ok (.enter (gNm j) args) w := by
 match j, hj with
 | 0, _ => exact (show ∀ args w, (callFunc 110 args).run Tryz.prog w = .ok (.enter 110 args) w from fun args w => by kernel_rfl)
 | 1, _ => exact (show ∀ args w, (callFunc 112 args).run Tryz.prog w = .ok (.enter 112 args) w from fun args w => by kernel_rfl)
 | 2, _ => exact (show ∀ args w, (callFunc 114 args).run Tryz.prog w = .ok (.enter 114 args) w from fun args w => by kernel_rfl)
 | 3, _ => exact (show ∀ args w, (callFunc 116 args).run Tryz.prog w = .ok (.enter 116 args) w from fun args w => by kernel_rfl)
 | 4, _ => exact (show ∀ args w, (callFunc 118 args).run Tryz.prog w = .ok (.enter 118 args) w from fun args w => by kernel_rfl)
theorem enter_kd (j : Nat) (hj : j < 5) : ∀ args w, (callFunc (gKd j) args).run Tryz.prog w = .ok (.enter (gKd j) args) w := by
 match j, hj with
 | 0, _ => exact (show ∀ args w, (callFunc 111 args).run Tryz.prog w = .ok (.enter 111 args) w from fun args w => by kernel_rfl)
 | 1, _ => exact (show ∀ args w, (callFunc 113 args).run Tryz.prog w = .ok (.enter 113 args) w from fun args w => by kernel_rfl)
 | 2, _ => exact (show ∀ args w, (callFunc 115 args).run Tryz.prog w = .ok (.enter 115 args) w from fun args w => by kernel_rfl)
 | 3, _ => exact (show ∀ args w, (callFunc 117 args).run Tryz.prog w = .ok (.enter 117 args) w from fun args w => by kernel_rfl)
 | 4, _ => exact (show ∀ args w, (callFunc 119 args).run Tryz.prog w = .ok (.enter 119 args) w from fun args w => by kernel_rfl)
def UnitsR (w : World) (l : List UnitM) (e : Ending) (w' : World) : Prop := ∃ A c, e = .returned (.slice A l.length c) ∧ UT w' (.slice A l.length c) l ∧ Below w.heap.size w w'
theorem unitsP_no {p : PlaceM} {item : Int} (h : exI item p.length = false) : unitsP p item = [] := by simp [unitsP, h]
theorem unitsP_yes {p : PlaceM} {j : Nat} (hj : j < p.length) : unitsP p ((j : Int) + 1) = p[j] := by
 have : exI ((j : Int) + 1) p.length = true := by simp [exI]; omega
 simp [unitsP, this, hj]
theorem units_prog (A : Option Addr) (c : Nat) (p : PlaceM) (item : Int) (w : World) (h : PT w (.slice A p.length c) p) (hl : p.length ≤ 9223372036854775807) :
    Calls Tryz.prog 174 #[.agg #[.slice A p.length c], .int .i64 item] w (UnitsR w (unitsP p item)) := by
 have HB := hide ((Below.refl w.heap.size w).alloc (Nat.le_refl _) (.cells #[.slice A p.length c] 60))
 by_cases e1 : item < 1
 · have HU := hide (unitsP_no (p := p) (item := item) (by simp [exI]; omega))
   go_enter Tryz.func174, Tryz.ntmps174
   go_wp2_with fail
   go_ret
   rw [HU.out]
   exact ⟨none, 0, rfl, UT.nil_ _, HB.out⟩
 by_cases e2 : (p.length : Int) < item
 · have HU := hide (unitsP_no (p := p) (item := item) (by simp [exI]; omega))
   go_enter Tryz.func174, Tryz.ntmps174
   go_wp2_with fail
   go_ret
   rw [HU.out]
   exact ⟨none, 0, rfl, UT.nil_ _, HB.out⟩
 · obtain ⟨j, hj, rfl⟩ : ∃ j : Nat, j < p.length ∧ item = (j : Int) + 1 := ⟨(item - 1).toNat, by omega, by omega⟩
   obtain ⟨b, off, A2, c2, rfl, hb, x0, hu⟩ := h.at_ hj
   have HU := hide (unitsP_yes hj)
   have HT := hide hu
   have hjI : (j : Int) < (p.length : Int) := by omega
   clear hu h
   go_enter Tryz.func174, Tryz.ntmps174
   go_wp2_with fail
   go_ret
   rw [HU.out]
   exact ⟨A2, c2, rfl, HT.out.keep (KT.below HB.out), HB.out⟩
def PredUnit (g : Nat) (lb : Array Value) (l : List UnitM) (p : UnitM → Bool) (w : World) : Prop :=
 ∀ (i : Nat) (_ : i < l.length) (W : World), Below w.heap.size w W → Calls Tryz.prog g (#[.agg #[.int .i64 l[i].1, .int .i64 l[i].2]] ++ lb) W fun e w' => e = .returned (.bool (p l[i])) ∧ Below W.heap.size W w'
theorem indexFunc_Unit (g : Nat) (lb : Array Value) (eg : ∀ args w, (callFunc g args).run Tryz.prog w = .ok (.enter g args) w) (p : UnitM → Bool) (A : Option Addr) (c : Nat) (l : List UnitM) (w : World)
    (hl : l.length ≤ 9223372036854775807) (h : UT w (.slice A l.length c) l) (hp : PredUnit g lb l p w) :
    Calls Tryz.prog 144 #[.slice A l.length c, .func (.func g) #[] lb] w fun e w' => e = .returned (.int .i64 (firstI p l)) ∧ Below w.heap.size w w' := by
 have HP := hide hp; clear hp
 go_enter Tryz.func144, Tryz.ntmps144
 go_wp2_with fail
 go_loopw [8] (fun i wr => ∃ k : Nat, k ≤ l.length ∧ i = .int .i64 k ∧ Below w.heap.size w wr ∧ Hid (∀ j (hj : j < l.length), j < k → p l[j] = false)) (fun i _ => l.length - (intOf i).toNat)
 case atStart => exact ⟨0, Nat.zero_le _, rfl, Below.refl _ _, fun j hj h0 => absurd h0 (by omega)⟩
 case round =>
  obtain ⟨k, hk, rfl, hbr, hs⟩ := hrel
  by_cases hlt : k < l.length
  · obtain ⟨b, off, hA, hb, x0, x1⟩ := (h.keep (KT.below hbr)).at_ hlt
    subst hA
    have hC := HP.out k hlt wr hbr
    cases hpk : p l[k]
    · rw [hpk] at hC
      have HC := hide hC
      clear hC
      go_wp2_with (refine (HC.out).mono ?_; rintro e w1 ⟨rfl, hb1⟩)
      go_roundw
      case rel => exact ⟨k + 1, by omega, by go_num, hbr.trans (hb1.mono hbr.size), fun j hj h1 => by
       rcases Nat.lt_or_ge j k with h2 | h2
       · exact hs j hj h2
       · obtain rfl : j = k := by omega
         exact hpk⟩
      case measure => simp [intOf]; omega
    · rw [hpk] at hC
      have HC := hide hC
      have HF := hide (firstI_at hlt hpk hs)
      clear hC
      go_wp2_with (refine (HC.out).mono ?_; rintro e w1 ⟨rfl, hb1⟩)
      go_ret
      exact ⟨ret_congr (by rw [HF.out]; rfl), hbr.trans (hb1.mono hbr.size)⟩
  · have HF := hide (firstI_none fun j hj => hs j hj (by omega))
    go_wp2_with fail
    go_ret
    exact ⟨ret_congr (by rw [HF.out]; rfl), hbr⟩
theorem is_on (u : UnitM) (mc : Int) (bx : Nat) (W : World) (hX : Blk W bx 3 #[.int .i64 mc]) :
    Calls Tryz.prog 175 #[.agg #[.int .i64 u.1, .int .i64 u.2], .pointer (some ⟨bx, 0, none⟩)] W fun e w' => e = .returned (.bool (decide (u.1 = mc))) ∧ Below W.heap.size W w' := by
 have x0 := hX.cell 0
 have hlt := hX.lt
 simp at x0
 have HB := hide ((Below.refl W.heap.size W).alloc (Nat.le_refl _) (.cells #[.int .i64 u.1, .int .i64 u.2] 78))
 go_enter Tryz.func175, Tryz.ntmps175
 go_wp2_with fail
 go_ret
 exact ⟨rfl, HB.out⟩
theorem is_beyondU (u : UnitM) (mc : Int) (bx : Nat) (W : World) (hX : Blk W bx 3 #[.int .i64 mc]) :
    Calls Tryz.prog 145 #[.agg #[.int .i64 u.1, .int .i64 u.2], .pointer (some ⟨bx, 0, none⟩)] W fun e w' => e = .returned (.bool (decide (mc < u.1))) ∧ Below W.heap.size W w' := by
 have x0 := hX.cell 0
 have hlt := hX.lt
 simp at x0
 have HB := hide ((Below.refl W.heap.size W).alloc (Nat.le_refl _) (.cells #[.int .i64 u.1, .int .i64 u.2] 78))
 go_enter Tryz.func145, Tryz.ntmps145
 go_wp2_with fail
 go_ret
 exact ⟨rfl, HB.out⟩
def findI (l : List UnitM) (mc : Int) : Int := firstI (fun u => decide (u.1 = mc)) l
theorem findI_eq (l : List UnitM) (mc : Int) : findI l mc = match findU l mc with | some k => (k : Int) | none => -1 := rfl
theorem findI_range (l : List UnitM) (mc : Int) : -1 ≤ findI l mc ∧ findI l mc < l.length + 1 := by
 rw [findI_eq]
 cases h : findU l mc with
 | none => simp; omega
 | some k =>
   have := (List.findIdx?_eq_some_iff_getElem.1 h).1
   simp; omega
theorem find_prog (A : Option Addr) (c : Nat) (p : PlaceM) (item mc : Int) (w : World) (h : PT w (.slice A p.length c) p) (hl : p.length ≤ 9223372036854775807) (hul : (unitsP p item).length ≤ 9223372036854775807) :
    Calls Tryz.prog 140 #[.agg #[.slice A p.length c], .int .i64 item, .int .i64 mc] w fun e w' => e = .returned (.int .i64 (findI (unitsP p item) mc)) ∧ Below w.heap.size w w' := by
 have hB : Below w.heap.size w ((w.alloc (.cells #[.slice A p.length c] 60)).alloc (.cells #[.int .i64 mc] 3)) := ((Below.refl _ _).alloc (Nat.le_refl _) _).alloc (by simp) _
 have HB := hide hB
 have HU := hide (units_prog A c p item _ (h.below hB) hl)
 have HX := hide (Blk.new (w.alloc (.cells #[.slice A p.length c] 60)) 3 #[.int .i64 mc])
 clear hB h
 go_enter Tryz.func140, Tryz.ntmps140
 go_wp2_with (first
  | (go_at_call 174; refine HU.out.mono ?_; rintro e w1 ⟨A2, c2, rfl, hu, hb1⟩
     have HI := hide (indexFunc_Unit 175 #[.pointer (some ⟨w.heap.size + 1, 0, none⟩)] (fun _ _ => by kernel_rfl) (fun u => decide (u.1 = mc)) A2 c2 (unitsP p item) w1 hul hu (fun i hi W hW => is_on _ mc _ W (by
      have h1 := HX.out.below hb1 (by simp)
      have h2 := h1.below hW h1.lt
      simpa using h2)))
     clear hu)
  | (go_at_call 144; refine HI.out.mono ?_; rintro e w2 ⟨rfl, hb2⟩))
 go_ret
 have hb01 := HB.out.trans (hb1.mono HB.out.size)
 exact ⟨rfl, hb01.trans (hb2.mono hb01.size)⟩
theorem unil_some (a : Addr) (n c : Nat) (w : World) : (binOp .eql 67 (.slice (some a) n c) (.slice none 0 0)).run Tryz.prog w = .ok (.bool false) w := by
 have h : ∀ d : Nat, (Op.equalIn (d + 1) 67 (.slice (some a) n c) (.slice none 0 0)).run Tryz.prog w = .ok false w := fun d => by
  simp [Op.equalIn, run_underlying Tryz.underlying67]
 simp only [binOp]
 simp [Op.equal, Op.maxDepth, h 9999]
theorem unil_none (n c : Nat) (w : World) : (binOp .eql 67 (.slice none n c) (.slice none 0 0)).run Tryz.prog w = .ok (.bool true) w := by
 have h : ∀ d : Nat, (Op.equalIn (d + 1) 67 (.slice none n c) (.slice none 0 0)).run Tryz.prog w = .ok true w := fun d => by
  simp [Op.equalIn, run_underlying Tryz.underlying67]
 simp only [binOp]
 simp [Op.equal, Op.maxDepth, h 9999]
def CloneR (w : World) (l : List UnitM) (e : Ending) (w' : World) : Prop := ∃ v, e = .returned v ∧ OwnU w.heap.size w' v l ∧ Below w.heap.size w w'
theorem clone_units (A : Option Addr) (c : Nat) (l : List UnitM) (w : World) (h : UT w (.slice A l.length c) l) (hl : l.length ≤ 1000) :
    Calls Tryz.prog 178 #[.slice A l.length c] w (CloneR w l) := by
 have hs1 := unil_some
 have hs2 := unil_none
 cases A with
 | none =>
   have hn : l = [] := by
    obtain ⟨_, _, e, _, _, h3⟩ := h
    rcases Nat.eq_zero_or_pos l.length with h0 | h0
    · exact List.eq_nil_of_length_eq_zero h0
    · obtain ⟨g, off, cur, e2, _⟩ := h3 h0
      injection e with e1
      rw [← e1] at e2; cases e2
   subst hn
   have hr := hide (OwnU.nil_ w.heap.size w)
   go_enter Tryz.func178, Tryz.ntmps178
   go_wp2_with fail
   go_ret
   exact ⟨_, rfl, hr.out, Below.refl _ _⟩
 | some ad =>
   have hB := (Below.refl w.heap.size w).alloc (Nat.le_refl _) (.cells #[] 78)
   have HB := hide hB
   have HO := hide (OwnU.empty (B := w.heap.size) w (Nat.le_refl _) (g := w.heap.size) rfl)
   have HR := hide (h.keep (KT.below hB)).reads
   clear hB h
   go_enter Tryz.func178, Tryz.ntmps178
   go_wp2_with (at_builtin; refine append_units rfl _ _ rfl w.heap.size _ [] rfl HO.out _ (some ad) l.length c l rfl rfl HR.out (by simp; omega) (by simp) ?_; intro v1 w1 hO1 hg1 _; rw [List.nil_append] at hO1
                have hb1 := HB.out.grown hg1 HB.out.size (fun k hk => (HO.out.lt k hk).1))
   go_ret
   exact ⟨v1, rfl, hO1, hb1⟩
end Go.Proofs.YtmjcgcnpeoemdaaGreatDoor
