/- A part of the claim: see its last text. -/
import Derived.Test.YtcfogipaadhbeaaGreatDoorUK25
import Derived.Test.YtcfogipaadhbeaaGreatDoorUK26
import Derived.Test.YtcfogipaadhbeaaGreatDoorUK27
import Derived.Test.YtcfogipaadhbeaaGreatDoorUK02

set_option maxRecDepth 100000
set_option maxHeartbeats 16000000
namespace Go.Proofs.YtcfogipaadhbeaaGreatDoor
open Go Go.RowKit Go.Proofs
/-! A map with string keys that is filled one by one -/
theorem checkKey_str {P : Program} {K : TypeId} (hk : P.underlying K = some .string) (e : Bool) (n : Nat) (k : ByteArray) (w : World) :
    (Instr.checkKey e (n + 1) K (.string k)).run P w = .ok () w := by
 unfold Instr.checkKey
 simp [Sem.run_bind, run_underlying hk]
theorem run_findKey_str {P : Program} {K : TypeId} (hk : P.underlying K = some .string) (k : ByteArray) (es : List MapEntry) {r : Option (Nat × Value)} (hf : Instr.findNow .string (.string k) es 0 = some r) (w : World) :
    (Instr.findKey K (.string k) es).run P w = .ok r w := by
 unfold Instr.findKey
 simp [Sem.run_bind, run_underlying hk, hf]
theorem ba_beq (a b : ByteArray) : (a == b) = decide (a = b) := by
 obtain ⟨x⟩ := a
 obtain ⟨y⟩ := b
 show (x == y) = _
 rw [Bool.eq_iff_iff]
 simp
def setW (w : World) (r : Nat) (o : Obj) : World := { w with heap := w.heap.setIfInBounds r o }
theorem setObj_run {P : Program} {w : World} {r : Nat} {es : Array MapEntry} {c : Nat} (h : w.heap[r]? = some (.map es c)) (o : Obj) : (setObj r o).run P w = .ok () (setW w r o) := by
 simp only [setObj, Sem.run, h]; rfl
theorem setW_at {w : World} {r : Nat} (h : r < w.heap.size) (o : Obj) : (setW w r o).heap[r]? = some o := by simp [setW, h]
theorem setW_but (w : World) (r B : Nat) (o : Obj) : But r B w (setW w r o) := ⟨rfl, rfl, rfl, by simp [setW], fun k _ hn => by simp only [setW]; rw [Array.getElem?_setIfInBounds]; simp [Ne.symm hn]⟩
theorem wpList_mapUpdate_newS {P : Program} {ops : Array Oper} {rest : List Oper} {o : Oper} {a : Act} {Q : Exit → Act → World → Prop} {w : World} (hgd : o.guard = none) (hd : o.dst = none) (t : TypeId) (m k v : Operand)
    (ho : o.op = .mapUpdate t m k v) {K E : TypeId} (ht : P.underlying t = some (.map K E)) (hk : P.underlying K = some .string) {es : Array MapEntry} {c : Nat} {kk : ByteArray} {vv : Value} {r : Nat}
    (hr : w.heap[r]? = some (.map es c)) (hm : a.eval m = .map (some r)) (hkv : a.eval k = .string kk) (hv : a.eval v = vv) (hf : Instr.findNow .string (.string kk) es.toList 0 = some none)
    (h : ∀ w1 : World, w1.heap[r]? = some (.map (es.push { key := .string kk, val := vv, born := c }) (c + 1)) → But r w.heap.size w w1 → wpList P ops Q rest a w1) : wpList P ops Q (o :: rest) a w :=
 wpList_plain hgd fun K' hK => by
  have hlt : r < w.heap.size := (Array.getElem?_eq_some_iff.1 hr).1
  unfold Oper.wp execOp
  simp only [ho, hm, hkv, hv, Sem.run_bind, Instr.mapUpdate, run_underlying ht, getObj_run hr, checkKey_str hk, run_findKey_str hk kk es.toList hf, setObj_run hr, Result.andThen_ok, Sem.run_pure, Oper.upon_skip, hd]
  exact hK _ _ (h _ (setW_at hlt _) (setW_but w r _ _))
def entS (l : List ByteArray) : Array MapEntry := (l.zipIdx.map fun x => ({ key := .string x.1, val := .bool true, born := x.2 } : MapEntry)).toArray
theorem entS_push (l : List ByteArray) (s : ByteArray) : (entS l).push { key := .string s, val := .bool true, born := l.length } = entS (l ++ [s]) := by
 simp [entS, List.zipIdx_append]
theorem findS : ∀ (l : List ByteArray) (s : ByteArray) (i n : Nat), ∃ o, Instr.findNow .string (.string s) ((l.zipIdx n).map fun x => ({ key := .string x.1, val := .bool true, born := x.2 } : MapEntry)) i = some o ∧ ((hasS l s = true → ∃ j, o = some (j, .bool true)) ∧ (hasS l s = false → o = none))
 | [], s, i, n => ⟨none, rfl, by simp [hasS], fun _ => rfl⟩
 | x :: l, s, i, n => by
   by_cases h : s = x
   · refine ⟨some (i, .bool true), ?_, fun _ => ⟨i, rfl⟩, fun hf => by simp [hasS, h] at hf⟩
     simp only [List.zipIdx_cons, List.map_cons, Instr.findNow, Instr.sameNow, ba_beq, h, decide_true]
   · obtain ⟨o, h1, h2, h3⟩ := findS l s (i + 1) (n + 1)
     have hx : hasS (x :: l) s = hasS l s := by simp [hasS, Ne.symm h]
     refine ⟨o, ?_, by rw [hx]; exact h2, by rw [hx]; exact h3⟩
     simp only [List.zipIdx_cons, List.map_cons, Instr.findNow, Instr.sameNow, ba_beq, decide_eq_false h]
     exact h1
theorem look_entS {w : World} {r : Nat} {l : List ByteArray} {c : Nat} (h : w.heap[r]? = some (.map (entS l) c)) (s : ByteArray) :
    (Instr.lookup 108 (.map (some r)) (.string s) false).run Tryz.prog w = .ok (.bool (hasS l s)) w := by
 obtain ⟨o, h1, h2, h3⟩ := findS l s 0 0
 have hz : (zeroValue 4).run Tryz.prog w = .ok (.bool false) w := by kernel_rfl
 have h1' : Instr.findNow .string (.string s) (entS l).toList 0 = some o := h1
 unfold Instr.lookup
 simp [Sem.run_bind, run_underlying Tryz.underlying108, getObj_run h, checkKey_str Tryz.underlying9, run_findKey_str Tryz.underlying9 s (entS l).toList h1']
 cases hs : hasS l s
 · rw [h3 hs]
   simp [hz]
 · obtain ⟨j, rfl⟩ := h2 hs
   simp
theorem names_prog (h : MH) (m : Mod) (w : World) (d : MD w w.heap.size h m) (q1 : m.sT.length ≤ 100) (q2 : m.fT.length ≤ 100) (q3 : m.rT.length ≤ 100) (q4 : m.mT.length ≤ 100) (q5 : m.iT.length ≤ 100) :
    Calls Tryz.prog 70 #[.agg #[.slice h.s m.sT.length h.sc, .slice h.f m.fT.length h.fc, .slice h.r m.rT.length h.rc, .slice h.m m.mT.length h.mc, .slice h.l m.lT.length h.lc, .slice h.i m.iT.length h.ic, .int .i64 m.dT, .int .i64 m.oT, .int .i64 m.vT, .int .i64 m.aT, .slice h.u m.uT.length h.uc]] w fun e w' => ∃ A c, e = .returned (.slice A (nameList m).length c) ∧ (nameList m).length ≤ c ∧ Strs w' w'.heap.size A (nameList m) ∧ Below w.heap.size w w' := by
 have hB2 := two_blocks w #[.slice h.s m.sT.length h.sc, .slice h.f m.fT.length h.fc, .slice h.r m.rT.length h.rc, .slice h.m m.mT.length h.mc, .slice h.l m.lT.length h.lc, .slice h.i m.iT.length h.ic, .int .i64 m.dT, .int .i64 m.oT, .int .i64 m.vT, .int .i64 m.aT, .slice h.u m.uT.length h.uc] #[.slice none 0 0] 32 25
 have hC0 : Coll (w.heap.size + 1 + 1) (w.heap.size + 1) ((w.alloc (.cells #[.slice h.s m.sT.length h.sc, .slice h.f m.fT.length h.fc, .slice h.r m.rT.length h.rc, .slice h.m m.mT.length h.mc, .slice h.l m.lT.length h.lc, .slice h.i m.iT.length h.ic, .int .i64 m.dT, .int .i64 m.oT, .int .i64 m.vT, .int .i64 m.aT, .slice h.u m.uT.length h.uc] 32)).alloc (.cells #[.slice none 0 0] 25)) [] :=
  ⟨_, by simpa using Blk.new (w.alloc (.cells #[.slice h.s m.sT.length h.sc, .slice h.f m.fT.length h.fc, .slice h.r m.rT.length h.rc, .slice h.m m.mT.length h.mc, .slice h.l m.lT.length h.lc, .slice h.i m.iT.length h.ic, .int .i64 m.dT, .int .i64 m.oT, .int .i64 m.vT, .int .i64 m.aT, .slice h.u m.uT.length h.uc] 32)) 25 #[.slice none 0 0], OwnS.nil_ _ _⟩
 have HE := hide (each_names h m (w.heap.size + 1) w.heap.size ((w.alloc (.cells #[.slice h.s m.sT.length h.sc, .slice h.f m.fT.length h.fc, .slice h.r m.rT.length h.rc, .slice h.m m.mT.length h.mc, .slice h.l m.lT.length h.lc, .slice h.i m.iT.length h.ic, .int .i64 m.dT, .int .i64 m.oT, .int .i64 m.vT, .int .i64 m.aT, .slice h.u m.uT.length h.uc] 32)).alloc (.cells #[.slice none 0 0] 25)) (d.below hB2) (by omega) (by simpa using hC0) (by simp) q1 q2 q3 q4 q5)
 have HB := hide hB2
 clear hB2 hC0 d
 go_enter Tryz.func70, Tryz.ntmps70
 go_wp2_with (go_at_call 121; refine HE.out.mono ?_; rintro e w1 ⟨rfl, hC, hbut⟩
              obtain ⟨v, hv1, hv2⟩ := hC.ex
              have v0 := hv1.cell 0
              have vlt := hv1.lt
              simp at v0
              obtain ⟨A, c, rfl, hc, hS⟩ := hv2.form3)
 go_ret
 exact ⟨A, c, rfl, hc, hS, HB.out.trans (hbut.below2 (by simp; omega) (by omega))⟩
theorem valid_parts {m : Mod} (h : validM m = true) : siteB m = true ∧ ¬ 8 < m.iT.length ∧ ¬ 40 < m.uT.length ∧ namesB m = true ∧ m.iT.all (itemOk m) = true ∧ m.uT.all (ruleOk m) = true ∧ exI m.dT m.sT.length = true ∧ wiI m.oT 1 16 = true ∧ wiI m.vT 0 (m.oT - 1) = true ∧ wiI m.aT 0 7 = true := by
 simp only [validM, sizesB, Bool.and_eq_true, decide_eq_true_eq] at h
 obtain ⟨⟨⟨⟨⟨⟨h1, h2⟩, h3⟩, h4⟩, h5⟩, h6⟩, ⟨⟨⟨h7, h8⟩, h9⟩, h10⟩⟩ := h
 exact ⟨h1, by omega, by omega, h4, h5, h6, h7, h8, h9, h10⟩
theorem item_bad (h : MH) (m : Mod) (bm : Nat) (W : World) (x : ItemM) (A : Option Addr) (c : Nat) (hM : Blk W bm 32 #[.slice h.s m.sT.length h.sc, .slice h.f m.fT.length h.fc, .slice h.r m.rT.length h.rc, .slice h.m m.mT.length h.mc, .slice h.l m.lT.length h.lc, .slice h.i m.iT.length h.ic, .int .i64 m.dT, .int .i64 m.oT, .int .i64 m.vT, .int .i64 m.aT, .slice h.u m.uT.length h.uc]) (l0 : m.mT.length ≤ 9223372036854775807) (hl : x.on.length ≤ c) (hc : c ≤ 9223372036854775807) (hI : Ints W W.heap.size A x.on) :
    Calls Tryz.prog 73 #[.agg #[.string x.name, .int .i64 x.kind, .int .i64 x.count, .int .i64 x.load, .int .i64 x.size, .int .i64 x.share, .slice A x.on.length c], .pointer (some ⟨bm, 0, none⟩)] W fun e w' => e = .returned (.bool (!itemOk m x)) ∧ Below W.heap.size W w' := by
 obtain ⟨c0, c1, c2, c3, c4, c5, c6, c7, c8, c9, c10⟩ := MB.cells hM
 have hlt := hM.lt
 have hB := (Below.refl W.heap.size W).alloc (Nat.le_refl _) (.cells #[.string x.name, .int .i64 x.kind, .int .i64 x.count, .int .i64 x.load, .int .i64 x.size, .int .i64 x.share, .slice A x.on.length c] 49)
 have HC := hide (item14_prog h m x A c _ (by omega) l0 (hI.grow hB))
 have HB := hide hB
 clear hB hM
 go_enter Tryz.func73, Tryz.ntmps73
 go_wp2_with (go_at_call 74; refine HC.out.mono ?_; rintro e w1 ⟨rfl, hb1⟩)
 go_ret
 exact ⟨rfl, HB.out.trans (hb1.mono HB.out.size)⟩
theorem rule_bad (h : MH) (m : Mod) (bm : Nat) (W : World) (x : RuleM) (A : Option Addr) (c : Nat) (hM : Blk W bm 32 #[.slice h.s m.sT.length h.sc, .slice h.f m.fT.length h.fc, .slice h.r m.rT.length h.rc, .slice h.m m.mT.length h.mc, .slice h.l m.lT.length h.lc, .slice h.i m.iT.length h.ic, .int .i64 m.dT, .int .i64 m.oT, .int .i64 m.vT, .int .i64 m.aT, .slice h.u m.uT.length h.uc]) (d : MD W W.heap.size h m) (hl : x.machines.length ≤ c) (hc : c ≤ 9223372036854775807) (hI : Ints W W.heap.size A x.machines) :
    Calls Tryz.prog 76 #[.agg #[.int .i64 x.kind, .int .i64 x.item, .int .i64 x.other, .int .i64 x.n, .int .i64 x.by_, .bool x.always, .slice A x.machines.length c], .pointer (some ⟨bm, 0, none⟩)] W fun e w' => e = .returned (.bool (!ruleOk m x)) ∧ Below W.heap.size W w' := by
 obtain ⟨c0, c1, c2, c3, c4, c5, c6, c7, c8, c9, c10⟩ := MB.cells hM
 have hlt := hM.lt
 have hB := (Below.refl W.heap.size W).alloc (Nat.le_refl _) (.cells #[.int .i64 x.kind, .int .i64 x.item, .int .i64 x.other, .int .i64 x.n, .int .i64 x.by_, .bool x.always, .slice A x.machines.length c] 62)
 have HC := hide (rule14_ok h m x A c _ (d.grow hB) (by omega) (hI.grow hB))
 have HB := hide hB
 clear hB hM d hI
 go_enter Tryz.func76, Tryz.ntmps76
 go_wp2_with (go_at_call 77; refine HC.out.mono ?_; rintro e w1 ⟨rfl, hb1⟩)
 go_ret
 exact ⟨rfl, HB.out.trans (hb1.mono HB.out.size)⟩
theorem any_not' {α : Type} (l : List α) (p : α → Bool) : l.any (fun x => !p x) = !l.all p := List.not_all_eq_any_not.symm
theorem MW.but {w wr w2 : World} {bm g : Nat} {h : MH} {m : Mod} (d : MW w bm wr h m) (hb : But g wr.heap.size wr w2) (hg : w.heap.size ≤ g) (hne : bm ≠ g) : MW w bm w2 h m :=
 ⟨d.b.trans (hb.below2 d.b.size hg), hb.blk d.blk d.lt hne⟩
theorem cell?_mapBut {w w1 : World} {r c c' : Nat} {es es' : Array MapEntry} (h : w.heap[r]? = some (.map es c)) (h1 : w1.heap[r]? = some (.map es' c')) (hb : But r w.heap.size w w1) (p : Addr) (hp : p.block < w.heap.size) : w1.cell? p = w.cell? p := by
 by_cases e : p.block = r
 · simp [World.cell?, e, h, h1]
 · exact World.cell?_of_block (hb.block _ hp e)
theorem findS_none {l : List ByteArray} {s : ByteArray} (h : hasS l s = false) : Instr.findNow .string (.string s) (entS l).toList 0 = some none := by
 obtain ⟨o, h1, _, h3⟩ := findS l s 0 0
 rw [h3 h] at h1
 exact h1
theorem validM_prog (h : MH) (m : Mod) (w : World) (d : MD w w.heap.size h m) (k1 : m.rT.length ≤ h.rc) (k2 : m.mT.length ≤ h.mc) (k3 : m.lT.length ≤ h.lc) (ha : Asc w) (hv : validM m = true) :
    Calls Tryz.prog 28 #[.agg #[.slice h.s m.sT.length h.sc, .slice h.f m.fT.length h.fc, .slice h.r m.rT.length h.rc, .slice h.m m.mT.length h.mc, .slice h.l m.lT.length h.lc, .slice h.i m.iT.length h.ic, .int .i64 m.dT, .int .i64 m.oT, .int .i64 m.vT, .int .i64 m.aT, .slice h.u m.uT.length h.uc]] w fun e w' => e = .returned (.bool true) ∧ Below w.heap.size w w' := by
 obtain ⟨v1, v2, v3, v4, v5, v6, v7, v8, v9, v10⟩ := valid_parts hv
 have hl0 := d.sl
 have hl5 := d.il
 have hl6 := d.ul
 have hl3 := d.ml
 have hfit := names_fit d
 have HW0 := hide (MW.start w h m)
 have D := hide d
 have hmm := @run_makeMap Tryz.prog
 have hS := siteValid_prog h m (w.alloc (.cells #[.slice h.s m.sT.length h.sc, .slice h.f m.fT.length h.fc, .slice h.r m.rT.length h.rc, .slice h.m m.mT.length h.mc, .slice h.l m.lT.length h.lc, .slice h.i m.iT.length h.ic, .int .i64 m.dT, .int .i64 m.oT, .int .i64 m.vT, .int .i64 m.aT, .slice h.u m.uT.length h.uc] 32)) ((MW.start w h m).md d) k1 k2 k3
 rw [v1] at hS
 have HS := hide hS
 obtain ⟨z1, z2, z3, z4⟩ := siteB_lens v1
 have fb : 1 ≤ m.oT ∧ m.oT ≤ 16 := by simpa [wiI] using v8
 obtain ⟨fb1, fb2⟩ := fb
 have HV7 := hide (show wiI m.dT 1 m.sT.length = true from v7)
 have hv7 := HV7.out
 have HN := hide fun (W : World) (hW : MW w w.heap.size W h m) => names_prog h m W (hW.md D.out) z1 z2 z3 z4 (by omega)
 have HL := hide (show (nameList m).length ≤ 600 by rw [← nmI_all]; exact (nm_len z1 z2 z3 z4 (by omega) _).2.2)
 have HF := hide hfit
 have HX := hide (And.intro v4 (And.intro v5 v6))
 have HA := hide ha
 clear hS hfit v1 z1 z2 z3 z4 v4 v5 v6 v7 hv d ha
 go_enter Tryz.func28, Tryz.ntmps28
 go_wp2_with (first
  | (go_at_call 68; refine HS.out.mono ?_; rintro e w1 ⟨rfl, hb1⟩; have hW1 := HW0.out.grow hb1; obtain ⟨a0, a1, a2, a3, a4, a5, a6, a7, a8, a9, a10⟩ := MB.cells hW1.blk; have ha := hW1.lt; clear hb1)
  | (go_at_call 69; refine (within_prog _ _ _ _).mono ?_; rintro e w2 ⟨rfl, rfl⟩)
  | (go_at_call 70; refine (HN.out _ (hW1.grow ((Below.refl _ _).alloc (Nat.le_refl _) (.map #[] 0)))).mono ?_; rintro e w2 ⟨A, c, rfl, hc, hStr, hb2⟩
     have hW2 := (hW1.grow ((Below.refl _ _).alloc (Nat.le_refl _) (.map #[] 0))).grow hb2
     have hmp : w2.heap[w1.heap.size]? = some (.map (entS []) 0) := (hb2.block w1.heap.size (by simp)).trans (heap_alloc_new w1 _)))
 have hW1lt : w.heap.size < w1.heap.size := hW1.lt
 have HS0 := hide (And.intro hW2 (And.intro hmp hStr))
 have H12 := hide (show w1.heap.size < w2.heap.size from by have := hb2.size; simp at this; omega)
 clear hW1 hW2 hmp hStr hb2 a0 a1 a2 a3 a4 a5 a6 a7 a8 a9 a10 hv7 v8 v9 v10 HS HW0 HN
 go_loopw [55] (fun i wr => ∃ k : Nat, k ≤ (nameList m).length ∧ i = .int .i64 k ∧ w1.heap.size < wr.heap.size ∧ Hid (MW w w.heap.size wr h m) ∧ Hid (wr.heap[w1.heap.size]? = some (.map (entS ((nameList m).take k)) k)) ∧ Hid (Strs wr w2.heap.size A (nameList m) ∧ w2.heap.size ≤ wr.heap.size)) (fun i _ => (nameList m).length - (intOf i).toNat)
 case atStart => exact ⟨0, Nat.zero_le _, rfl, H12.out, HS0.out.1, HS0.out.2.1, ⟨HS0.out.2.2, Nat.le_refl _⟩⟩
 case round =>
  clear HS0 H12
  obtain ⟨k, hk, rfl, hw1, hW, hMp, hStr⟩ := hrel
  have hnl := HL.out
  have hW0lt := hW.out.lt
  by_cases hlt : k < (nameList m).length
  · obtain ⟨b, off, hA, hb, x0⟩ := str_at hStr.out.1 hlt
    subst hA
    have hbw : b < wr.heap.size := by have := hStr.out.2; omega
    have hok := (soundB_iff (p := fun s pre => isName s && !hasS pre s)).1 HX.out.1 k hlt
    simp only [Bool.and_eq_true, Bool.not_eq_true'] at hok
    obtain ⟨o1, o2⟩ := hok
    have HI := hide (isName_prog (nameList m)[k] wr (HA.out.below (Nat.le_refl _) hW.out.b) (HF.out _ (List.getElem_mem hlt)))
    rw [o1] at HI
    have HP := hide (entS_push ((nameList m).take k) (nameList m)[k])
    have HTK := hide (show (nameList m).take k ++ [(nameList m)[k]] = (nameList m).take (k + 1) by rw [List.take_succ_eq_append_getElem hlt])
    have HLN := hide (show ((nameList m).take k).length = k by simp; omega)
    have HFN := hide (findS_none o2)
    have O2 := hide o2
    clear o1 o2
    generalize hnm : (nameList m)[k] = nm at *
    clear hnm
    go_wp2_with (first
     | (go_at_call 71; refine HI.out.mono ?_; rintro e w3 ⟨rfl, hb3⟩
        have hM3 : w3.heap[w1.heap.size]? = some (.map (entS ((nameList m).take k)) k) := (hb3.block _ hw1).trans hMp.out
        have hlk := look_entS hM3 nm
        rw [O2.out] at hlk
        have HM3 := hide hM3
        have hs3 := hb3.size
        clear hM3)
     | (refine wpList_mapUpdate_newS rfl rfl _ _ _ _ rfl Tryz.underlying108 Tryz.underlying9 HM3.out rfl rfl rfl HFN.out ?_; intro w4 hM4 hb4
        have HM4 := hide hM4
        have HB4 := hide hb4
        clear hM4 hb4))
    have hS4 : Strs w4 w2.heap.size (some ⟨b, off, none⟩) (nameList m) := (hStr.out.1.keep fun p hp => hb3.cell (by have := hStr.out.2; omega)).keep fun p hp => cell?_mapBut HM3.out HM4.out HB4.out p (by have := hStr.out.2; omega)
    have hs4 := HB4.out.size
    have hM4' : w4.heap[w1.heap.size]? = some (.map (entS ((nameList m).take (k + 1))) (k + 1)) := by
     rw [← HTK.out, ← HP.out, HLN.out]; exact HM4.out
    go_roundw
    case rel => exact ⟨k + 1, by omega, by go_num, by omega, hide ((hW.out.grow hb3).but HB4.out (by omega) (by omega)), hM4', ⟨hS4, by have := hStr.out.2; omega⟩⟩
    case measure => simp [intOf]; omega
  · have hWm := hW.out
    have HIt := hide (containsFunc_Item 73 #[.pointer (some ⟨w.heap.size, 0, none⟩)] (fun _ _ => by kernel_rfl) (fun x => !itemOk m x) h.i h.ic m.iT wr hl5 (hWm.md D.out).dI (fun i hi A2 c2 W hW2 g1 g2 gI => item_bad h m w.heap.size W m.iT[i] A2 c2 (hWm.grow hW2).blk hl3 g1 g2 gI))
    have HRu := hide fun (W0 : World) (hW0 : MW w w.heap.size W0 h m) => containsFunc_Rule 76 #[.pointer (some ⟨w.heap.size, 0, none⟩)] (fun _ _ => by kernel_rfl) (fun x => !ruleOk m x) h.u h.uc m.uT W0 hl6 (hW0.md D.out).dU (fun i hi A2 c2 W hW2 g1 g2 gI => rule_bad h m w.heap.size W m.uT[i] A2 c2 (hW0.grow hW2).blk ((hW0.grow hW2).md D.out) g1 g2 gI)
    have e1 : m.iT.any (fun x => !itemOk m x) = false := by rw [any_not', HX.out.2.1]; rfl
    have e2 : m.uT.any (fun x => !ruleOk m x) = false := by rw [any_not', HX.out.2.2]; rfl
    rw [e1] at HIt
    rw [e2] at HRu
    obtain ⟨a0, a1, a2, a3, a4, a5, a6, a7, a8, a9, a10⟩ := MB.cells hWm.blk
    clear e1 e2
    go_wp2_with (first
     | (go_at_call 72; refine HIt.out.mono ?_; rintro e w3 ⟨rfl, hb3⟩; have hW3 := hWm.grow hb3; obtain ⟨c0, c1, c2, c3, c4, c5, c6, c7, c8, c9, c10⟩ := MB.cells hW3.blk; have hc := hW3.lt; clear hb3)
     | (go_at_call 75; refine (HRu.out _ hW3).mono ?_; rintro e w4 ⟨rfl, hb4⟩))
    go_ret
    exact ⟨rfl, (hW3.grow hb4).b⟩
end Go.Proofs.YtcfogipaadhbeaaGreatDoor
