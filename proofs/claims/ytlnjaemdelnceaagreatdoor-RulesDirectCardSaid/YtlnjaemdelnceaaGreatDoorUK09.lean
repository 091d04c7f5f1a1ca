/- A part of the claim: see its last text. -/
import Derived.Test.YtlnjaemdelnceaaGreatDoorUK01
import Derived.Test.YtlnjaemdelnceaaGreatDoorUK08
import Derived.Laws.EntriesVeiled
import Derived.Deep.RegionHeld3
import Derived.Deep.DeepCutAuto

set_option maxRecDepth 100000
set_option maxHeartbeats 16000000
namespace Go.Proofs.YtlnjaemdelnceaaGreatDoor
open Go Go.RowKit
theorem checkKey_int {P : Program} {K : TypeId} {kd : IntKind} (hk : P.underlying K = some (.int kd)) (e : Bool) (n : Nat) (k : Int) (w : World) :
    (Instr.checkKey e (n + 1) K (.int kd k)).run P w = .ok () w := by
 unfold Instr.checkKey
 simp [Sem.run_bind, run_underlying hk]
theorem run_findKey_int {P : Program} {K : TypeId} (hk : P.underlying K = some (.int .i64)) (k : Int) (es : List MapEntry) {r : Option (Nat × Value)} (hf : Instr.findNow (.int .i64) (.int .i64 k) es 0 = some r) (w : World) :
    (Instr.findKey K (.int .i64 k) es).run P w = .ok r w := by
 unfold Instr.findKey
 simp [Sem.run_bind, run_underlying hk, hf]
theorem getObj_run {P : Program} {w : World} {r : Nat} {es : Array MapEntry} {c : Nat} (h : w.heap[r]? = some (.map es c)) : (getObj r).run P w = .ok (.map es c) w := by simp [getObj, Sem.run, h]
theorem setObj_last {P : Program} {w : World} {es : Array MapEntry} {c : Nat} (o : Obj) : (setObj w.heap.size o).run P (w.alloc (.map es c)) = .ok () (w.alloc o) := by
 have hg : (w.alloc (.map es c)).heap[w.heap.size]? = some (.map es c) := heap_alloc_new w _
 simp only [setObj, Sem.run, hg]
 have : (w.alloc (.map es c)).heap.setIfInBounds w.heap.size o = (w.alloc o).heap := by
  show (w.heap.push (.map es c)).setIfInBounds w.heap.size o = w.heap.push o
  apply Array.ext'
  simp
 rw [this]; rfl
theorem run_insert_new {P : Program} {w : World} {t K E : TypeId} {es : Array MapEntry} {c : Nat} {k : Int} {v : Value}
    (ht : P.underlying t = some (.map K E)) (hk : P.underlying K = some (.int .i64)) (hf : Instr.findNow (.int .i64) (.int .i64 k) es.toList 0 = some none) :
    (Instr.mapUpdate t (.map (some w.heap.size)) (.int .i64 k) v).run P (w.alloc (.map es c)) = .ok () (w.alloc (.map (es.push { key := .int .i64 k, val := v, born := c }) (c + 1))) := by
 have hg : (w.alloc (.map es c)).heap[w.heap.size]? = some (.map es c) := heap_alloc_new w _
 unfold Instr.mapUpdate
 simp [Sem.run_bind, run_underlying ht, getObj_run hg, checkKey_int hk, run_findKey_int hk k es.toList hf, setObj_last]
def pickO (o : Option (Nat × Value)) (z : Value) : Value × Bool := match o with | some (_, x) => (x, true) | none => (z, false)
theorem run_lookup_int {P : Program} {w : World} {t K E : TypeId} {r : Nat} {es : Array MapEntry} {c : Nat} {k : Int} {v z : Value} {b : Bool} {o : Option (Nat × Value)}
    (ht : P.underlying t = some (.map K E)) (hk : P.underlying K = some (.int .i64)) (hz : (zeroValue E).run P w = .ok z w) (hg : w.heap[r]? = some (.map es c))
    (hf : Instr.findNow (.int .i64) (.int .i64 k) es.toList 0 = some o) (hv : pickO o z = (v, b)) :
    (Instr.lookup t (.map (some r)) (.int .i64 k) true).run P w = .ok (.tuple #[v, .bool b]) w := by
 unfold Instr.lookup
 simp [Sem.run_bind, run_underlying ht, getObj_run hg, checkKey_int hk, run_findKey_int hk k es.toList hf]
 cases o with
 | none => simp [pickO] at hv; simp [hz, hv]
 | some x => simp [pickO] at hv; simp [hv]
theorem wpList_insert_new {P : Program} {ops : Array Oper} {rest : List Oper} {o : Oper} {a : Act} {Q : Exit → Act → World → Prop} {w w0 : World} (hgd : o.guard = none) (hd : o.dst = none) (t : TypeId) (m k v : Operand)
    (ho : o.op = .insert t m k v) {K E : TypeId} (ht : P.underlying t = some (.map K E)) (hk : P.underlying K = some (.int .i64)) {es : Array MapEntry} {c : Nat} {kk : Int} {vv : Value}
    {r : Nat} (hw : w = w0.alloc (.map es c)) (hm : a.eval m = .map (some r)) (hr : r = w0.heap.size) (hkv : a.eval k = .int .i64 kk) (hv : a.eval v = vv) (hf : Instr.findNow (.int .i64) (.int .i64 kk) es.toList 0 = some none)
    (h : wpList P ops Q rest a (w0.alloc (.map (es.push { key := .int .i64 kk, val := vv, born := c }) (c + 1)))) : wpList P ops Q (o :: rest) a w :=
 wpList_plain hgd fun K' hK => by
  subst hw
  subst hr
  unfold Oper.wp execOp
  simp only [ho, hm, hkv, hv, Sem.run_bind, run_insert_new ht hk hf, Result.andThen_ok, Sem.run_pure, Oper.upon_skip, hd]
  exact hK _ _ h
theorem run_lookup_int1 {P : Program} {w : World} {t K E : TypeId} {r : Nat} {es : Array MapEntry} {c : Nat} {k : Int} {v z : Value} {b : Bool} {o : Option (Nat × Value)}
    (ht : P.underlying t = some (.map K E)) (hk : P.underlying K = some (.int .i64)) (hz : (zeroValue E).run P w = .ok z w) (hg : w.heap[r]? = some (.map es c))
    (hf : Instr.findNow (.int .i64) (.int .i64 k) es.toList 0 = some o) (hv : pickO o z = (v, b)) :
    (Instr.lookup t (.map (some r)) (.int .i64 k) false).run P w = .ok v w := by
 unfold Instr.lookup
 simp [Sem.run_bind, run_underlying ht, getObj_run hg, checkKey_int hk, run_findKey_int hk k es.toList hf]
 cases o with
 | none => simp [pickO] at hv; simp [hz, hv]
 | some x => simp [pickO] at hv; simp [hv]
def ents (f : Nat → Value) (n : Nat) : Array MapEntry := ((List.range n).map fun (k : Nat) => ({ key := .int .i64 (k : Int), val := f k, born := k } : MapEntry)).toArray
theorem ents_push (f : Nat → Value) (n : Nat) : (ents f n).push { key := .int .i64 (n : Int), val := f n, born := n } = ents f (n + 1) := by
 simp [ents, List.range_succ]
theorem sameNow_ne {k m : Int} (h : k ≠ m) : Instr.sameNow (.int .i64) (.int .i64 k) (.int .i64 m) = some false := by
 have : (k == m) = false := by simpa using h
 simp [Instr.sameNow, this]
theorem findNow_none {k : Int} : ∀ (l : List MapEntry) (i : Nat), (∀ e ∈ l, ∃ m : Int, e.key = .int .i64 m ∧ k ≠ m) → Instr.findNow (.int .i64) (.int .i64 k) l i = some none
 | [], _, _ => rfl
 | e :: l, i, h => by
   obtain ⟨m, hm, hne⟩ := h e (by simp)
   unfold Instr.findNow
   rw [hm, sameNow_ne hne]
   exact findNow_none l (i + 1) fun e' he' => h e' (by simp [he'])
theorem findNow_some {k : Int} {v : Value} : ∀ (l : List MapEntry) (i j : Nat) (hj : j < l.length), l[j].key = .int .i64 k → l[j].val = v → (∀ x (hx : x < l.length), x < j → ∃ m : Int, l[x].key = .int .i64 m ∧ k ≠ m) →
    Instr.findNow (.int .i64) (.int .i64 k) l i = some (some (i + j, v))
 | [], _, j, hj, _, _, _ => absurd hj (by simp)
 | e :: l, i, 0, hj, hk, hv, _ => by
   unfold Instr.findNow
   simp at hk hv
   simp [Instr.sameNow, hk, hv]
 | e :: l, i, j + 1, hj, hk, hv, hb => by
   obtain ⟨m, hm, hne⟩ := hb 0 (by simp) (by omega)
   simp at hm
   unfold Instr.findNow
   rw [hm, sameNow_ne hne]
   have := findNow_some (v := v) l (i + 1) j (by simpa using hj) (by simpa using hk) (by simpa using hv) fun x hx hlt => by
    have := hb (x + 1) (by simpa using hx) (by omega)
    simp only [List.getElem_cons_succ] at this
    exact this
   rw [show i + (j + 1) = i + 1 + j by omega]
   exact this
theorem find_ents_new (f : Nat → Value) (n : Nat) : Instr.findNow (.int .i64) (.int .i64 (n : Int)) (ents f n).toList 0 = some none := by
 refine findNow_none _ _ fun e he => ?_
 simp [ents] at he
 obtain ⟨m, hm, rfl⟩ := he
 exact ⟨m, rfl, by omega⟩
theorem find_ents (f : Nat → Value) (n : Nat) (k : Int) : Instr.findNow (.int .i64) (.int .i64 k) (ents f n).toList 0 = some (if 0 ≤ k ∧ k < n then some (k.toNat, f k.toNat) else none) := by
 split
 · rename_i h
   obtain ⟨m, rfl⟩ : ∃ m : Nat, k = m := ⟨k.toNat, by omega⟩
   rw [findNow_some (v := f m) _ 0 m (by simp [ents]; omega) (by simp [ents]) (by simp [ents]) fun x hx hlt => ⟨x, by simp [ents], by omega⟩]
   simp
 · rename_i h
   refine findNow_none _ _ fun e he => ?_
   simp [ents] at he
   obtain ⟨m, hm, rfl⟩ := he
   exact ⟨m, rfl, by omega⟩
theorem wpList_insert_next {P : Program} {ops : Array Oper} {rest : List Oper} {o : Oper} {a : Act} {Q : Exit → Act → World → Prop} {w w0 : World} (hgd : o.guard = none) (hd : o.dst = none) (t : TypeId) (m k v : Operand)
    (ho : o.op = .insert t m k v) {K E : TypeId} (ht : P.underlying t = some (.map K E)) (hk : P.underlying K = some (.int .i64)) (f : Nat → Value) {n : Nat} {kk : Int} {r : Nat} (hw : w = w0.alloc (.map (ents f n) n)) (hr : r = w0.heap.size)
    (hm : a.eval m = .map (some r)) (hkv : a.eval k = .int .i64 kk) (hkn : kk = (n : Int)) (hv : a.eval v = f n)
    (h : wpList P ops Q rest a (w0.alloc (.map (ents f (n + 1)) (n + 1)))) : wpList P ops Q (o :: rest) a w := by
 subst hkn
 refine wpList_insert_new hgd hd t m k v ho ht hk hw hm hr hkv hv (find_ents_new f n) ?_
 rw [ents_push]; exact h
end Go.Proofs.YtlnjaemdelnceaaGreatDoor

namespace Go.Proofs.YtlnjaemdelnceaaGreatDoor
open Go Go.RowKit Go.Proofs
theorem item_g (x : ItemM) (A : Option Addr) (c bx : Nat) (W : World) (hX : Blk W bx 81 #[.string x.name, .int .i64 x.kind, .int .i64 x.count, .int .i64 x.load, .int .i64 x.size, .int .i64 x.share, .slice A x.on.length c]) :
    Calls Tryz.prog 139 #[.pointer (some ⟨bx, 0, none⟩)] W fun e w' => e = .returned (.bool (decide (x.count ∈ ([1, 3, 5] : List Int)) && decide ((x.on.length : Int) = x.count))) ∧ Below W.heap.size W w' := by
 have x2 := hX.cell 2
 have x6 := hX.cell 6
 have hlt := hX.lt
 simp at x2 x6
 have HC := hide (contains_ints (some ⟨W.heap.size, 0, none⟩) 3 [1, 3, 5] x.count (W.alloc (.cells #[.int .i64 1, .int .i64 3, .int .i64 5] 3)) (by decide) ((Ints.newRow W 3 [1, 3, 5]).more (by simp)))
 have HB := hide ((Below.refl W.heap.size W).alloc (Nat.le_refl _) (.cells #[.int .i64 1, .int .i64 3, .int .i64 5] 3))
 clear hX
 obtain ⟨b, hb⟩ : ∃ b, (x.count == (x.on.length : Int)) = b := ⟨_, rfl⟩
 have hb2 : decide ((x.on.length : Int) = x.count) = b := by rw [← hb]; by_cases e : (x.on.length : Int) = x.count <;> simp [e]; omega
 have HB2 := hide hb2
 clear hb2
 cases hq : decide (x.count ∈ ([1, 3, 5] : List Int))
 all_goals
  rw [hq] at HC
  clear hq
  go_enter Tryz.func139, Tryz.ntmps139
  go_wp2_with (go_at_call 46; refine HC.out.mono ?_; rintro e w2 ⟨rfl, rfl⟩)
  go_ret
  exact ⟨ret_congr (by rw [HB2.out]; rfl), HB.out⟩
theorem item_p (x : ItemM) (A : Option Addr) (c bx : Nat) (W : World) (hX : Blk W bx 81 #[.string x.name, .int .i64 x.kind, .int .i64 x.count, .int .i64 x.load, .int .i64 x.size, .int .i64 x.share, .slice A x.on.length c]) :
    Calls Tryz.prog 140 #[.pointer (some ⟨bx, 0, none⟩)] W fun e w' => e = .returned (.bool (wiI x.count 1 8)) ∧ Below W.heap.size W w' := by
 have x2 := hX.cell 2
 have hlt := hX.lt
 simp at x2
 go_enter Tryz.func140, Tryz.ntmps140
 go_wp2_with (go_at_call 92; refine (within_prog _ _ _ _).mono ?_; rintro e w2 ⟨rfl, rfl⟩)
 go_ret
 exact ⟨rfl, Below.refl _ _⟩
theorem item_j (x : ItemM) (A : Option Addr) (c bx : Nat) (W : World) (hX : Blk W bx 81 #[.string x.name, .int .i64 x.kind, .int .i64 x.count, .int .i64 x.load, .int .i64 x.size, .int .i64 x.share, .slice A x.on.length c]) :
    Calls Tryz.prog 141 #[.pointer (some ⟨bx, 0, none⟩)] W fun e w' => e = .returned (.bool (decide (x.count = 1) && decide (x.on.length = 1))) ∧ Below W.heap.size W w' := by
 have x2 := hX.cell 2
 have x6 := hX.cell 6
 have hlt := hX.lt
 simp at x2 x6
 obtain ⟨b1, hb1⟩ : ∃ b, (x.count == 1) = b := ⟨_, rfl⟩
 obtain ⟨b2, hb2⟩ : ∃ b, ((x.on.length : Int) == 1) = b := ⟨_, rfl⟩
 have e1 : decide (x.count = 1) = b1 := by rw [← hb1]; rfl
 have e2 : decide (x.on.length = 1) = b2 := by rw [← hb2, Bool.eq_iff_iff]; simp; omega
 have HE := hide (And.intro e1 e2)
 clear e1 e2
 cases b1
 all_goals
  go_enter Tryz.func141, Tryz.ntmps141
  go_wp2_with fail
  go_ret
  exact ⟨ret_congr (by rw [HE.out.1, HE.out.2]; rfl), Below.refl _ _⟩
theorem nilf_ne (w : World) : (binOp .neq 38 .nilFunc .nilFunc).run Tryz.prog w = .ok (.bool false) w := by kernel_rfl
theorem func_ne (g : Nat) (cap : Array Value) (w : World) : (binOp .neq 38 (.func (.func g) #[] cap) .nilFunc).run Tryz.prog w = .ok (.bool true) w := by kernel_rfl
def entI (bx : Nat) (k : Nat) : Value := .func (.func (match k with | 0 => 139 | 1 => 140 | _ => 141)) #[] #[.pointer (some ⟨bx, 0, none⟩)]
theorem look_entI {w : World} {r bx : Nat} (h : w.heap[r]? = some (.map (ents (entI bx) 3) 3)) (k : Int) :
    (Instr.lookup 166 (.map (some r)) (.int .i64 k) false).run Tryz.prog w = .ok (if 0 ≤ k ∧ k < 3 then entI bx k.toNat else .nilFunc) w := by
 have hf : Instr.findNow (.int .i64) (.int .i64 k) (ents (entI bx) 3).toList 0 = some (if 0 ≤ k ∧ k < 3 then some (k.toNat, entI bx k.toNat) else none) := find_ents (entI bx) 3 k
 have hz : (zeroValue 38).run Tryz.prog w = .ok .nilFunc w := by kernel_rfl
 split
 · rename_i hk
   rw [if_pos hk] at hf
   exact run_lookup_int1 Tryz.underlying166 Tryz.underlying3 hz h hf (b := true) (by rfl)
 · rename_i hk
   rw [if_neg hk] at hf
   exact run_lookup_int1 Tryz.underlying166 Tryz.underlying3 hz h hf (b := false) (by rfl)
theorem itemKind_0 {x : ItemM} (h : x.kind = 0) : itemKindB x = (decide (x.count ∈ ([1, 3, 5] : List Int)) && decide ((x.on.length : Int) = x.count)) := by simp [itemKindB, h]
theorem itemKind_1 {x : ItemM} (h : x.kind = 1) : itemKindB x = wiI x.count 1 8 := by simp [itemKindB, h]
theorem itemKind_2 {x : ItemM} (h : x.kind = 2) : itemKindB x = (decide (x.count = 1) && decide (x.on.length = 1)) := by simp [itemKindB, h]
theorem itemKind_no {x : ItemM} (h : ¬ (0 ≤ x.kind ∧ x.kind < 3)) : itemKindB x = false := by
 unfold itemKindB; rw [if_neg (by omega), if_neg (by omega), if_neg (by omega)]
theorem item_k (x : ItemM) (A : Option Addr) (c bx : Nat) (hk : 0 ≤ x.kind ∧ x.kind < 3) : ∃ g, entI bx x.kind.toNat = .func (.func g) #[] #[.pointer (some ⟨bx, 0, none⟩)] ∧ (∀ args w, (callFunc g args).run Tryz.prog w = .ok (.enter g args) w) ∧
    ∀ W, Blk W bx 81 #[.string x.name, .int .i64 x.kind, .int .i64 x.count, .int .i64 x.load, .int .i64 x.size, .int .i64 x.share, .slice A x.on.length c] → Calls Tryz.prog g #[.pointer (some ⟨bx, 0, none⟩)] W fun e w' => e = .returned (.bool (itemKindB x)) ∧ Below W.heap.size W w' := by
 have h3 : x.kind = 0 ∨ x.kind = 1 ∨ x.kind = 2 := by omega
 rcases h3 with h | h | h
 · refine ⟨139, by rw [h]; rfl, fun _ _ => by kernel_rfl, fun W hX => ?_⟩
   rw [itemKind_0 h]; exact item_g x A c bx W hX
 · refine ⟨140, by rw [h]; rfl, fun _ _ => by kernel_rfl, fun W hX => ?_⟩
   rw [itemKind_1 h]; exact item_p x A c bx W hX
 · refine ⟨141, by rw [h]; rfl, fun _ _ => by kernel_rfl, fun W hX => ?_⟩
   rw [itemKind_2 h]; exact item_j x A c bx W hX
theorem itemOk_eq (m : Mod) (x : ItemM) : itemOk m x = (itemKindB x && incB m.mT.length x.on && wiI x.load 0 1048576 && wiI x.size 0 1048576 && wiI x.share 1 1048576) := by
 unfold itemOk
 generalize itemKindB x = a
 generalize incB m.mT.length x.on = b
 cases a <;> cases b <;> simp
theorem item14_prog (h : MH) (m : Mod) (x : ItemM) (A : Option Addr) (c : Nat) (w : World) (hl : x.on.length ≤ 9223372036854775807) (l0 : m.mT.length ≤ 9223372036854775807) (hI : Ints w w.heap.size A x.on) :
    Calls Tryz.prog 97 #[.agg #[.slice h.s m.sT.length h.sc, .slice h.f m.fT.length h.fc, .slice h.r m.rT.length h.rc, .slice h.m m.mT.length h.mc, .slice h.l m.lT.length h.lc, .slice h.i m.iT.length h.ic, .int .i64 m.dT, .int .i64 m.oT, .int .i64 m.vT, .int .i64 m.aT, .slice h.u m.uT.length h.uc], .agg #[.string x.name, .int .i64 x.kind, .int .i64 x.count, .int .i64 x.load, .int .i64 x.size, .int .i64 x.share, .slice A x.on.length c]] w fun e w' => e = .returned (.bool (itemOk m x)) ∧ Below w.heap.size w w' := by
 have hmm := @run_makeMap Tryz.prog
 have hn1 := nilf_ne
 have hn2 := func_ne
 have HM := hide (((Blk.new w 29 #[.slice h.s m.sT.length h.sc, .slice h.f m.fT.length h.fc, .slice h.r m.rT.length h.rc, .slice h.m m.mT.length h.mc, .slice h.l m.lT.length h.lc, .slice h.i m.iT.length h.ic, .int .i64 m.dT, .int .i64 m.oT, .int .i64 m.vT, .int .i64 m.aT, .slice h.u m.uT.length h.uc]).alloc (.cells #[.string x.name, .int .i64 x.kind, .int .i64 x.count, .int .i64 x.load, .int .i64 x.size, .int .i64 x.share, .slice A x.on.length c] 81)).alloc (.map (ents (entI (w.heap.size + 1)) 3) 3))
 have hX0 : Blk ((w.alloc (.cells #[.slice h.s m.sT.length h.sc, .slice h.f m.fT.length h.fc, .slice h.r m.rT.length h.rc, .slice h.m m.mT.length h.mc, .slice h.l m.lT.length h.lc, .slice h.i m.iT.length h.ic, .int .i64 m.dT, .int .i64 m.oT, .int .i64 m.vT, .int .i64 m.aT, .slice h.u m.uT.length h.uc] 29)).alloc (.cells #[.string x.name, .int .i64 x.kind, .int .i64 x.count, .int .i64 x.load, .int .i64 x.size, .int .i64 x.share, .slice A x.on.length c] 81)) (w.heap.size + 1) 81 #[.string x.name, .int .i64 x.kind, .int .i64 x.count, .int .i64 x.load, .int .i64 x.size, .int .i64 x.share, .slice A x.on.length c] := by
  have := Blk.new (w.alloc (.cells #[.slice h.s m.sT.length h.sc, .slice h.f m.fT.length h.fc, .slice h.r m.rT.length h.rc, .slice h.m m.mT.length h.mc, .slice h.l m.lT.length h.lc, .slice h.i m.iT.length h.ic, .int .i64 m.dT, .int .i64 m.oT, .int .i64 m.vT, .int .i64 m.aT, .slice h.u m.uT.length h.uc] 29)) 81 #[.string x.name, .int .i64 x.kind, .int .i64 x.count, .int .i64 x.load, .int .i64 x.size, .int .i64 x.share, .slice A x.on.length c]
  simpa using this
 have HX := hide (hX0.alloc (.map (ents (entI (w.heap.size + 1)) 3) 3))
 have hB := (two_boxes2 w #[.slice h.s m.sT.length h.sc, .slice h.f m.fT.length h.fc, .slice h.r m.rT.length h.rc, .slice h.m m.mT.length h.mc, .slice h.l m.lT.length h.lc, .slice h.i m.iT.length h.ic, .int .i64 m.dT, .int .i64 m.oT, .int .i64 m.vT, .int .i64 m.aT, .slice h.u m.uT.length h.uc] #[.string x.name, .int .i64 x.kind, .int .i64 x.count, .int .i64 x.load, .int .i64 x.size, .int .i64 x.share, .slice A x.on.length c] 29 81)
 have HB := hide (hB.alloc hB.size (.map (ents (entI (w.heap.size + 1)) 3) 3))
 have hlk := look_entI (w := (((w.alloc (.cells #[.slice h.s m.sT.length h.sc, .slice h.f m.fT.length h.fc, .slice h.r m.rT.length h.rc, .slice h.m m.mT.length h.mc, .slice h.l m.lT.length h.lc, .slice h.i m.iT.length h.ic, .int .i64 m.dT, .int .i64 m.oT, .int .i64 m.vT, .int .i64 m.aT, .slice h.u m.uT.length h.uc] 29)).alloc (.cells #[.string x.name, .int .i64 x.kind, .int .i64 x.count, .int .i64 x.load, .int .i64 x.size, .int .i64 x.share, .slice A x.on.length c] 81)).alloc (.map (ents (entI (w.heap.size + 1)) 3) 3))) (r := w.heap.size + 2) (bx := w.heap.size + 1) (by simpa using heap_alloc_new ((w.alloc (.cells #[.slice h.s m.sT.length h.sc, .slice h.f m.fT.length h.fc, .slice h.r m.rT.length h.rc, .slice h.m m.mT.length h.mc, .slice h.l m.lT.length h.lc, .slice h.i m.iT.length h.ic, .int .i64 m.dT, .int .i64 m.oT, .int .i64 m.vT, .int .i64 m.aT, .slice h.u m.uT.length h.uc] 29)).alloc (.cells #[.string x.name, .int .i64 x.kind, .int .i64 x.count, .int .i64 x.load, .int .i64 x.size, .int .i64 x.share, .slice A x.on.length c] 81)) (.map (ents (entI (w.heap.size + 1)) 3) 3)) x.kind
 have HK := hide (itemOk_eq m x)
 clear hX0 hB
 by_cases hk : 0 ≤ x.kind ∧ x.kind < 3
 · rw [if_pos hk] at hlk
   obtain ⟨g, hg, eg, hcl⟩ := item_k x A c (w.heap.size + 1) hk
   rw [hg] at hlk
   have HCL := hide hcl
   clear hg hk hcl
   generalize itemKindB x = q at HCL HK
   go_enter Tryz.func97, Tryz.ntmps97
   go_wp2_with (first
    | (refine wpList_insert_next rfl rfl _ _ _ _ rfl Tryz.underlying166 Tryz.underlying3 (entI (w.heap.size + 1)) rfl (by simp) rfl rfl rfl rfl ?_)
    | ((with_reducible refine Calls.mono (HCL.out _ HX.out) ?_); rintro e w1 ⟨rfl, hb1⟩
       have hx := HX.out.below hb1 (by simp <;> omega)
       have hm := HM.out.below hb1 (by simp <;> omega)
       have hB1 := hide (HB.out.trans (hb1.mono HB.out.size))
       have y3 := hx.cell 3
       have y4 := hx.cell 4
       have y5 := hx.cell 5
       have y6 := hx.cell 6
       have ylt := hx.lt
       have yl2 := hm.lt
       obtain ⟨a0, a1, a2, a3, a4, a5, a6, a7, a8, a9, a10⟩ := MB.cells hm
       simp at y3 y4 y5 y6
       clear hm hb1)
    | (go_at_call 142; refine (machines_prog h m A c x.on _ hl l0 (hI.grow hB1.out)).mono ?_; rintro e w2 ⟨rfl, hb2⟩
       have hx2 := hx.below hb2 ylt
       have hB2 := hide (hB1.out.trans (hb2.mono hB1.out.size))
       have z3 := hx2.cell 3
       have z4 := hx2.cell 4
       have z5 := hx2.cell 5
       have zlt := hx2.lt
       simp at z3 z4 z5
       clear hb2)
    | (go_at_call 92; refine (within_prog _ _ _ _).mono ?_; rintro e w3 ⟨rfl, rfl⟩))
   all_goals
    go_ret
    refine ⟨ret_congr (congrArg Value.bool ?_), by first | exact hB2.out | exact hB1.out⟩
    rw [HK.out]
    simp_all
 · rw [if_neg hk] at hlk
   have hq := itemKind_no hk
   rw [hq] at HK
   clear hq hk
   go_enter Tryz.func97, Tryz.ntmps97
   go_wp2_with (first
    | (refine wpList_insert_next rfl rfl _ _ _ _ rfl Tryz.underlying166 Tryz.underlying3 (entI (w.heap.size + 1)) rfl (by simp) rfl rfl rfl rfl ?_))
   go_ret
   exact ⟨ret_congr (by rw [HK.out]; rfl), HB.out⟩
end Go.Proofs.YtlnjaemdelnceaaGreatDoor
