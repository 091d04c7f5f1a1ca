/- Maps with string keys that the program builds from a literal: insert, lookup. Plain facts about the model's maps. Conditions: none. The walk of slices.DeleteFunc at strings, on a slice whose block is known whole. Conditions: lengths that fit memory. The walks of package parser: domain, classes. Conditions: lengths that fit memory. -/
import Derived.Test.YtanhkeeifnimgaaDoorMapI
import Derived.Test.YtanhkeeifnimgaaDoorProg
import Derived.Test.YtanhkeeifnimgaaDoorPrs18b
import Derived.Lib.SliceRun
import Derived.Test.YtanhkeeifnimgaaDoorPrs18c

namespace Go.Proofs.YtanhkeeifnimgaaDoor
open Go Go.RowKit

theorem checkKey_str {P : Program} {K : TypeId} (hk : P.underlying K = some .string) (e : Bool) (n : Nat) (k : ByteArray) (w : World) :
    (Instr.checkKey e (n + 1) K (.string k)).run P w = .ok () w := by
  unfold Instr.checkKey
  simp [Sem.run_bind, run_underlying hk]
theorem run_findKey_str {P : Program} {K : TypeId} (hk : P.underlying K = some .string) (k : ByteArray) (es : List MapEntry) {r : Option (Nat × Value)} (hf : Instr.findNow .string (.string k) es 0 = some r) (w : World) :
    (Instr.findKey K (.string k) es).run P w = .ok r w := by
  unfold Instr.findKey
  simp [Sem.run_bind, run_underlying hk, hf]
theorem run_insert_newS {P : Program} {w : World} {t K E : TypeId} {es : Array MapEntry} {c : Nat} {k : ByteArray} {v : Value}
    (ht : P.underlying t = some (.map K E)) (hk : P.underlying K = some .string) (hf : Instr.findNow .string (.string k) es.toList 0 = some none) :
    (Instr.mapUpdate t (.map (some w.heap.size)) (.string k) v).run P (w.alloc (.map es c)) = .ok () (w.alloc (.map (es.push { key := .string k, val := v, born := c }) (c + 1))) := by
  have hg : (w.alloc (.map es c)).heap[w.heap.size]? = some (.map es c) := heap_alloc_new w _
  unfold Instr.mapUpdate
  simp [Sem.run_bind, run_underlying ht, getObj_run hg, checkKey_str hk, run_findKey_str hk k es.toList hf, setObj_last]
theorem run_lookup_str1 {P : Program} {w : World} {t K E : TypeId} {r : Nat} {es : Array MapEntry} {c : Nat} {k : ByteArray} {v z : Value} {b : Bool} {o : Option (Nat × Value)}
    (ht : P.underlying t = some (.map K E)) (hk : P.underlying K = some .string) (hz : (zeroValue E).run P w = .ok z w) (hg : w.heap[r]? = some (.map es c))
    (hf : Instr.findNow .string (.string k) es.toList 0 = some o) (hv : pickO o z = (v, b)) :
    (Instr.lookup t (.map (some r)) (.string k) false).run P w = .ok v w := by
  unfold Instr.lookup
  simp [Sem.run_bind, run_underlying ht, getObj_run hg, checkKey_str hk, run_findKey_str hk k es.toList hf]
  cases o with
  | none => simp [pickO] at hv; simp [hz, hv]
  | some x => simp [pickO] at hv; simp [hv]
theorem wpList_insert_newS {P : Program} {ops : Array Oper} {rest : List Oper} {o : Oper} {a : Act} {Q : Exit → Act → World → Prop} {w w0 : World} (hgd : o.guard = none) (hd : o.dst = none) (t : TypeId) (m k v : Operand)
    (ho : o.op = .insert t m k v) {K E : TypeId} (ht : P.underlying t = some (.map K E)) (hk : P.underlying K = some .string) {es : Array MapEntry} {c : Nat} {kk : ByteArray} {vv : Value}
    {r : Nat} (hw : w = w0.alloc (.map es c)) (hm : a.eval m = .map (some r)) (hr : r = w0.heap.size) (hkv : a.eval k = .string kk) (hv : a.eval v = vv) (hf : Instr.findNow .string (.string kk) es.toList 0 = some none)
    (h : wpList P ops Q rest a (w0.alloc (.map (es.push { key := .string kk, val := vv, born := c }) (c + 1)))) : wpList P ops Q (o :: rest) a w :=
  wpList_plain hgd fun K' hK => by
    subst hw
    subst hr
    unfold Oper.wp execOp
    simp only [ho, hm, hkv, hv, Sem.run_bind, run_insert_newS ht hk hf, Result.andThen_ok, Sem.run_pure, Oper.upon_skip, hd]
    exact hK _ _ h
/-- a map of three words -/
def ent3 (a b c : ByteArray) (x y z : Int) : Array MapEntry := #[{ key := .string a, val := .int .i64 x, born := 0 }, { key := .string b, val := .int .i64 y, born := 1 }, { key := .string c, val := .int .i64 z, born := 2 }]
def val3 (a b c : ByteArray) (x y z : Int) (k : ByteArray) : Int := if k = a then x else if k = b then y else if k = c then z else 0
theorem ba_beq (a b : ByteArray) : (a == b) = decide (a = b) := by
  obtain ⟨x⟩ := a
  obtain ⟨y⟩ := b
  show (x == y) = _
  rw [Bool.eq_iff_iff]
  simp
theorem find_ent3 (a b c : ByteArray) (x y z : Int) (k : ByteArray) : ∃ o q, Instr.findNow .string (.string k) (ent3 a b c x y z).toList 0 = some o ∧ pickO o (.int .i64 0) = (.int .i64 (val3 a b c x y z k), q) := by
  unfold ent3 val3
  simp only [Instr.findNow, Instr.sameNow, ba_beq]
  by_cases h1 : k = a
  · exact ⟨some (0, .int .i64 x), true, by rw [decide_eq_true h1], by rw [if_pos h1]; rfl⟩
  · by_cases h2 : k = b
    · exact ⟨some (1, .int .i64 y), true, by rw [decide_eq_false h1, decide_eq_true h2], by rw [if_neg h1, if_pos h2]; rfl⟩
    · by_cases h3 : k = c
      · exact ⟨some (2, .int .i64 z), true, by rw [decide_eq_false h1, decide_eq_false h2, decide_eq_true h3], by rw [if_neg h1, if_neg h2, if_pos h3]; rfl⟩
      · exact ⟨none, false, by rw [decide_eq_false h1, decide_eq_false h2, decide_eq_false h3], by rw [if_neg h1, if_neg h2, if_neg h3]; rfl⟩
theorem run_lookup3 {w : World} {r : Nat} {a b c : ByteArray} {x y z : Int} (k : ByteArray) (hg : w.heap[r]? = some (.map (ent3 a b c x y z) 3)) :
    (Instr.lookup 119 (.map (some r)) (.string k) false).run Tryd.prog w = .ok (.int .i64 (val3 a b c x y z k)) w := by
  obtain ⟨o, q, h1, h2⟩ := find_ent3 a b c x y z k
  exact run_lookup_str1 Tryd.underlying119 Tryd.underlying9 (by kernel_rfl) hg h1 h2
end Go.Proofs.YtanhkeeifnimgaaDoor

namespace Go.Proofs.YtanhkeeifnimgaaDoor
open Go Go.RowKit Go.Proofs

theorem Blk.setCells_ {g : Nat} {t : TypeId} : ∀ (vs : List Value) (o : Nat) (cs : Array Value) (w : World), Blk w g t cs → ∃ cs', Blk (w.setCells g o vs) g t cs' ∧ cs'.size = cs.size ∧ ∀ q, q < o → cs'[q]? = cs[q]?
  | [], _, cs, _, h => ⟨cs, h, rfl, fun _ _ => rfl⟩
  | v :: vs, o, cs, w, h => by
    obtain ⟨cs', h1, h2, h3⟩ := Blk.setCells_ vs (o + 1) _ _ (Blk.set_ h o v)
    refine ⟨cs', h1, by rw [h2]; simp, fun q hq => ?_⟩
    rw [h3 q (by omega)]
    simp [show o ≠ q by omega]
theorem But.setCells_ {g B : Nat} : ∀ (vs : List Value) (o : Nat) (w : World), But g B w (w.setCells g o vs)
  | [], _, w => But.refl g B w
  | v :: vs, o, w => (But.set_ w o v).trans (But.setCells_ vs (o + 1) _)
/-- a row of strings that begins a block which is known whole -/
def Row (w : World) (L : Nat) (cs : Array Value) (l : List ByteArray) : Prop := Blk w L 9 cs ∧ l.length ≤ cs.size ∧ ∀ j (hj : j < l.length), cs[j]? = some (.string l[j])
theorem Row.strs {w : World} {L : Nat} {cs : Array Value} {l : List ByteArray} (h : Row w L cs l) : Strs w w.heap.size (some ⟨L, 0, none⟩) l := by
  obtain ⟨h1, h2, h3⟩ := h
  refine ⟨by simp, fun _ => ⟨_, rfl, Blk.lt h1, fun j u hu => ?_⟩⟩
  rw [List.getElem?_map] at hu
  cases hx : l[j]? with
  | none => rw [hx] at hu; cases hu
  | some x =>
    rw [hx] at hu
    obtain ⟨hj, rfl⟩ := List.getElem?_eq_some_iff.1 hx
    have := (Blk.cell h1 j).trans (h3 j hj)
    simp only [Option.map_some, Option.some.injEq] at hu
    rw [← hu, ← this]
    congr 1
    unfold Addr.add
    split <;> simp_all
theorem zero_str (w : World) : (zeroValue 9).run Tryd.prog w = .ok (.string ⟨#[]⟩) w := by kernel_rfl

set_option maxRecDepth 100000 in
set_option maxHeartbeats 4000000 in
theorem deleteFunc_strs (g : Nat) (lb : Array Value) (eg : ∀ args w, (callFunc g args).run Tryd.prog w = .ok (.enter g args) w) (p : ByteArray → Bool) (L c : Nat) (l : List ByteArray) (cs : Array Value) (w : World)
    (hl : l.length ≤ 1000000000) (hR : Row w L cs l) (hcs : cs.size = c) (hp : ∀ (x : ByteArray) (W : World), But L w.heap.size w W → Calls Tryd.prog g (#[.string x] ++ lb) W fun e w' => e = .returned (.bool (p x)) ∧ Below W.heap.size W w') :
    Calls Tryd.prog 129 #[.slice (some ⟨L, 0, none⟩) l.length c, .func (.func g) #[] lb] w fun e w' =>
      e = .returned (.slice (some ⟨L, 0, none⟩) (l.filter fun x => !p x).length c) ∧ (∃ cs', Row w' L cs' (l.filter fun x => !p x) ∧ cs'.size = c) ∧ But L w.heap.size w w' := by
  have HI := hide (indexFunc_strs g lb eg p (some ⟨L, 0, none⟩) c l w (by omega) hR.strs fun k hk W hW => hp l[k] W (But.ofBelow hW))
  have HP := hide hp
  have hLw := Blk.lt hR.1
  have hlc : l.length ≤ c := hcs ▸ hR.2.1
  clear hp
  cases hf : l.findIdx? p with
  | none =>
    have hno : ∀ x ∈ l, p x = false := by rw [List.findIdx?_eq_none_iff] at hf; exact hf
    have hfl : (l.filter fun x => !p x) = l := List.filter_eq_self.2 fun x hx => by rw [hno x hx]; rfl
    have hi : firstI p l = -1 := by unfold firstI; rw [hf]
    rw [hi] at HI
    rw [hfl]
    clear hfl hno hi hf
    go_enter Tryd.func129, Tryd.ntmps129
    go_wp2_with (go_at_call 93; refine HI.out.mono ?_; rintro e w1 ⟨rfl, hb1⟩)
    go_ret
    exact ⟨rfl, ⟨cs, ⟨Blk.below hR.1 hb1 hLw, hR.2⟩, hcs⟩, But.ofBelow hb1⟩
  | some i =>
    obtain ⟨hil, hpi, hbi⟩ := List.findIdx?_eq_some_iff_getElem.1 hf
    have hi : firstI p l = (i : Int) := by unfold firstI; rw [hf]
    rw [hi] at HI
    have hf0 : ∀ j, (l.filter fun x => !p x) = ((l.take j).filter fun x => !p x) ++ ((l.drop j).filter fun x => !p x) := fun j => by rw [← List.filter_append, List.take_append_drop]
    have hti : ((l.take i).filter fun x => !p x) = l.take i := List.filter_eq_self.2 fun x hx => by
      obtain ⟨j, hj, rfl⟩ := List.getElem_of_mem hx
      have hj2 : j < i := by simp at hj; omega
      have := hbi j hj2
      simp only [List.getElem_take]
      simpa using this
    have hst : ((l.take (i + 1)).filter fun x => !p x) = l.take i := by
      rw [List.take_succ_eq_append_getElem hil, List.filter_append, hti]
      simp [hpi]
    have HST := hide hst
    clear hst hti hi hf hbi hpi
    go_enter Tryd.func129, Tryd.ntmps129
    have hi0 : ((i : Int) == -1) = false := by simp
    go_wp2_with (go_at_call 93; refine HI.out.mono ?_; rintro e w1 ⟨rfl, hb1⟩)
    go_loopw [5, 6] (fun vi vj wr => ∃ (m j : Nat) (cs1 : Array Value), vi = .int .i64 m ∧ vj = .int .i64 j ∧ m < j ∧ j ≤ l.length ∧ Hid (((l.take j).filter fun x => !p x).length = m) ∧ Blk wr L 9 cs1 ∧ cs1.size = c ∧ Hid (∀ q (hq : q < ((l.take j).filter fun x => !p x).length), cs1[q]? = some (.string ((l.take j).filter fun x => !p x)[q])) ∧ Hid (∀ q (hq : q < l.length), j ≤ q → cs1[q]? = some (.string l[q])) ∧ But L w.heap.size w wr) (fun _ vj _ => l.length - (intOf vj).toNat)
    case atStart =>
      refine ⟨i, i + 1, cs, rfl, by go_num, by omega, by omega, hide (by rw [HST.out, List.length_take]; omega), Blk.below hR.1 hb1 hLw, hcs, ?_, ?_, But.ofBelow hb1⟩
      · rw [HST.out]
        refine hide fun q hq => ?_
        simp only [List.length_take] at hq
        rw [hR.2.2 q (by omega)]
        simp
      · exact hide fun q hq _ => hR.2.2 q hq
    case round =>
      clear hb1 hR HI HST
      obtain ⟨m, j, cs1, rfl, rfl, hmj, hjl, hm, hB, hsz, h1, h2, hBut⟩ := hrel
      by_cases hlt : j < l.length
      · have hcell := (Blk.cell hB j).trans (h2.out j hlt (Nat.le_refl _))
        have hcellm : (wr.cell? ⟨L, m, none⟩).isSome = true := by rw [Blk.cell hB m]; simp; omega
        have hf8 := Blk.frozen hB m
        have hLr := Blk.lt hB
        have hjI : (j : Int) < (l.length : Int) := by omega
        have htk : (l.take (j + 1)).filter (fun x => !p x) = ((l.take j).filter fun x => !p x) ++ (if p l[j] then [] else [l[j]]) := by
          rw [List.take_succ_eq_append_getElem hlt, List.filter_append]
          cases hx : p l[j] <;> simp [hx]
        have HC := HP.out l[j] wr hBut
        cases hpj : p l[j]
        · rw [hpj] at HC
          have HC := hide HC
          rw [hpj, if_neg (by decide)] at htk
          have HTK := hide htk
          clear htk
          obtain ⟨um, hum⟩ := Option.isSome_iff_exists.1 hcellm
          have hnm : ¬ m = j := by omega
          clear hpj hcellm
          go_wp2_with (refine HC.out.mono ?_; rintro e z ⟨rfl, hz⟩; have hBz := Blk.below hB hz hLr; have zc := (hz.cell (p := ⟨L, m, none⟩) hLr).trans hum; have zf := Blk.frozen hBz m; have hzl := Blk.lt hBz)
          go_roundw
          case rel =>
            have hml := hm.out
            refine ⟨m + 1, j + 1, cs1.setIfInBounds m (.string l[j]), by go_num, by go_num, by omega, by omega, hide (by rw [HTK.out]; simp; exact hml), Blk.set_ hBz m _, by simp; exact hsz, ?_, ?_, hBut.trans ((But.ofBelow (hz.mono hBut.size)).trans (But.set_ _ _ _))⟩
            · rw [HTK.out]
              refine hide fun q hq => ?_
              rw [Array.getElem?_setIfInBounds]
              by_cases hqm : m = q
              · subst hqm
                rw [if_pos rfl, if_pos (by omega), List.getElem_append_right (by omega)]
                simp [hml]
              · rw [if_neg hqm]
                have hq2 : q < ((l.take j).filter fun x => !p x).length := by simp at hq; omega
                rw [List.getElem_append_left hq2]
                exact h1.out q hq2
            · refine hide fun q hq hjq => ?_
              rw [Array.getElem?_setIfInBounds, if_neg (by omega)]
              exact h2.out q hq (by omega)
          case measure => simp [intOf]; omega
        · rw [hpj] at HC
          have HC := hide HC
          rw [hpj, if_pos rfl, List.append_nil] at htk
          have HTK := hide htk
          clear htk hpj
          go_wp2_with (refine HC.out.mono ?_; rintro e z ⟨rfl, hz⟩)
          go_roundw
          case rel =>
            refine ⟨m, j + 1, cs1, rfl, by go_num, by omega, by omega, hide (by rw [HTK.out]; exact hm.out), Blk.below hB hz hLr, hsz, by rw [HTK.out]; exact h1, hide fun q hq hjq => h2.out q hq (by omega), hBut.trans (But.ofBelow (hz.mono hBut.size))⟩
          case measure => simp [intOf]; omega
      · obtain rfl : j = l.length := by omega
        have hjI : ¬ (l.length : Int) < (l.length : Int) := by omega
        rw [List.take_length] at hm h1
        have HM := hide hm.out
        obtain ⟨d, hd⟩ : ∃ d, l.length = m + (d + 1) := ⟨l.length - m - 1, by omega⟩
        obtain ⟨f, hfc⟩ : ∃ f, c = m + f := ⟨c - m, by omega⟩
        have hclr := Lib.run_clear_slice (P := Tryd.prog) wr 35 9 0 (.string ⟨#[]⟩) Tryd.underlying35 zero_str rfl rfl L m (d + 1) f (by omega) (fun q hq => by rw [Blk.cell hB]; simp; omega) (fun q _ => Blk.frozen hB _)
        have HCL := hide hclr
        clear hclr
        have hmI : (m : Int) ≤ (l.length : Int) := by omega
        have e1 : l.length - m = d + 1 := by omega
        have e2 : c - m = f := by omega
        go_wp2_with (rw [HCL.out]; simp only [Result.andThen_ok, Oper.upon_value])
        obtain ⟨cs', k1, k2, k3⟩ := Blk.setCells_ (List.replicate (d + 1) (.string ⟨#[]⟩)) m cs1 wr hB
        go_ret
        refine ⟨?_, ⟨cs', ⟨k1, by rw [HM.out]; omega, fun q hq => ?_⟩, by omega⟩, hBut.trans (But.setCells_ _ _ _)⟩
        · rw [HM.out]; rfl
        · rw [k3 q (by have := HM.out; omega)]
          exact h1.out q hq
end Go.Proofs.YtanhkeeifnimgaaDoor

namespace Go.Proofs.YtanhkeeifnimgaaDoor
open Go Go.RowKit Go.Proofs

set_option maxRecDepth 100000 in
set_option maxHeartbeats 4000000 in
theorem domain_st {bp B : Nat} {s : PS} (X : World) (h : PSt X bp B s) :
    Calls Tryd.prog 116 #[.pointer (some ⟨bp, 0, none⟩)] X (StepR bp B s.domain (.tuple #[]) X) := by
  have hmm := @run_makeMap Tryd.prog
  have hb1 : Below X.heap.size X (X.alloc (.map (ent3 (⟨#[114, 97, 99, 107]⟩ : ByteArray) (⟨#[102, 101, 101, 100]⟩ : ByteArray) (⟨#[115, 105, 116, 101]⟩ : ByteArray) 2 3 4) 3)) := (Below.refl _ _).alloc (Nat.le_refl _) _
  have hb2 : Below X.heap.size X ((X.alloc (.map (ent3 (⟨#[114, 97, 99, 107]⟩ : ByteArray) (⟨#[102, 101, 101, 100]⟩ : ByteArray) (⟨#[115, 105, 116, 101]⟩ : ByteArray) 2 3 4) 3)).alloc (.cells #[.string (⟨#[114, 97, 99, 107]⟩ : ByteArray), .string (⟨#[102, 101, 101, 100]⟩ : ByteArray), .string (⟨#[115, 105, 116, 101]⟩ : ByteArray)] 9)) := hb1.alloc hb1.size _
  have hA := Strs.newRow2 (X.alloc (.map (ent3 (⟨#[114, 97, 99, 107]⟩ : ByteArray) (⟨#[102, 101, 101, 100]⟩ : ByteArray) (⟨#[115, 105, 116, 101]⟩ : ByteArray) 2 3 4) 3)) (b := X.heap.size + 1) 9 [(⟨#[114, 97, 99, 107]⟩ : ByteArray), (⟨#[102, 101, 101, 100]⟩ : ByteArray), (⟨#[115, 105, 116, 101]⟩ : ByteArray)] (by simp)
  have HT := hide (take_sx 2 (some ⟨X.heap.size + 1, 0, none⟩) 3 [(⟨#[114, 97, 99, 107]⟩ : ByteArray), (⟨#[102, 101, 101, 100]⟩ : ByteArray), (⟨#[115, 105, 116, 101]⟩ : ByteArray)] _ (h.below hb2) (by decide) (hA.more (by simp)) (by simp))
  have HS := hide (show s.domain = { (s.take 2 [(⟨#[114, 97, 99, 107]⟩ : ByteArray), (⟨#[102, 101, 101, 100]⟩ : ByteArray), (⟨#[115, 105, 116, 101]⟩ : ByteArray)]).2 with d := { (s.take 2 [(⟨#[114, 97, 99, 107]⟩ : ByteArray), (⟨#[102, 101, 101, 100]⟩ : ByteArray), (⟨#[115, 105, 116, 101]⟩ : ByteArray)]).2.d with by_ := domOf (s.take 2 [(⟨#[114, 97, 99, 107]⟩ : ByteArray), (⟨#[102, 101, 101, 100]⟩ : ByteArray), (⟨#[115, 105, 116, 101]⟩ : ByteArray)]).1.text } } from rfl)
  have hlt := h.bp_lt
  have hM : ((X.alloc (.map (ent3 (⟨#[114, 97, 99, 107]⟩ : ByteArray) (⟨#[102, 101, 101, 100]⟩ : ByteArray) (⟨#[115, 105, 116, 101]⟩ : ByteArray) 2 3 4) 3)).alloc (.cells #[.string (⟨#[114, 97, 99, 107]⟩ : ByteArray), .string (⟨#[102, 101, 101, 100]⟩ : ByteArray), .string (⟨#[115, 105, 116, 101]⟩ : ByteArray)] 9)).heap[X.heap.size]? = some (.map (ent3 (⟨#[114, 97, 99, 107]⟩ : ByteArray) (⟨#[102, 101, 101, 100]⟩ : ByteArray) (⟨#[115, 105, 116, 101]⟩ : ByteArray) 2 3 4) 3) := (Below.heap_alloc _ _ _ (by simp)).trans (heap_alloc_new X _)
  clear h hA
  generalize s.take 2 [(⟨#[114, 97, 99, 107]⟩ : ByteArray), (⟨#[102, 101, 101, 100]⟩ : ByteArray), (⟨#[115, 105, 116, 101]⟩ : ByteArray)] = r at HT HS
  have hfd := field_text r.1.kind r.1.text r.1.n r.1.pos
  have HB := hide hb2
  have HM := hide hM
  clear hb1 hb2 hM
  go_enter Tryd.func116, Tryd.ntmps116
  go_wp2_with (first
    | (refine wpList_insert_newS (es := #[]) (c := 0) (vv := .int .i64 2) rfl rfl _ _ _ _ rfl Tryd.underlying119 Tryd.underlying9 rfl rfl rfl rfl rfl rfl ?_)
    | (refine wpList_insert_newS (c := 1) (vv := .int .i64 3) rfl rfl _ _ _ _ rfl Tryd.underlying119 Tryd.underlying9 rfl rfl rfl rfl rfl rfl ?_)
    | (refine wpList_insert_newS (c := 2) (vv := .int .i64 4) rfl rfl _ _ _ _ rfl Tryd.underlying119 Tryd.underlying9 rfl rfl rfl rfl rfl rfl ?_
       show wpList _ _ _ _ _ (X.alloc (.map (ent3 (⟨#[114, 97, 99, 107]⟩ : ByteArray) (⟨#[102, 101, 101, 100]⟩ : ByteArray) (⟨#[115, 105, 116, 101]⟩ : ByteArray) 2 3 4) 3)))
    | (go_at_call 57; refine HT.out.mono ?_; rintro e2 y ⟨rfl, hy, hby⟩; have hc := hy.cells; have x6 := hc.2.2.2.1; have hbpy := hc.2.2.2.2.2.1; have f6 := hc.2.2.2.2.2.2 6; have hlk := run_lookup3 r.1.text ((hby.block X.heap.size (by simp; omega) (by omega)).trans HM.out); clear hc))
  go_end0
  rw [HS.out]
  exact ⟨rfl, hy.set_by _, ((But.ofBelow (HB.out.mono hlt.2)).trans (hby.mono (Nat.le_trans hlt.2 HB.out.size))).trans (But.set_ _ _ _)⟩

set_option maxHeartbeats 2000000 in
theorem comma_rows {bp B : Nat} {s : PS} {rv nv : Value} (X : World) (h : PSt X bp B s) (h4 : X.cell? ⟨bp, 4, none⟩ = some rv) (h5 : X.cell? ⟨bp, 5, none⟩ = some nv) :
    Calls Tryd.prog 128 #[.pointer (some ⟨bp, 0, none⟩)] X fun ee X' => StepR bp B s.comma.2 (.bool s.comma.1) X ee X' ∧ X'.cell? ⟨bp, 4, none⟩ = some rv ∧ X'.cell? ⟨bp, 5, none⟩ = some nv ∧ But bp X.heap.size X X' := by
  have HN := hide (next_st X h)
  have hlt := h.bp_lt
  generalize hk : s.next.kind = tk at HN
  generalize ht : s.next.text = tt at HN
  generalize s.next.n = tn at HN
  generalize s.next.pos = tp at HN
  by_cases hno : s.e ≠ 0 ∨ tk ≠ 4 ∨ tt ≠ (⟨#[44]⟩ : ByteArray)
  · have HC := hide (show s.comma = (false, s) by unfold PS.comma; rw [if_pos (by rw [hk, ht]; exact hno)])
    have hcase : s.e ≠ 0 ∨ (s.e = 0 ∧ tk ≠ 4) ∨ (s.e = 0 ∧ tk = 4 ∧ tt ≠ (⟨#[44]⟩ : ByteArray)) := by
      by_cases h1 : s.e = 0
      · by_cases h2 : tk = 4
        · exact .inr (.inr ⟨h1, h2, by rcases hno with h | h | h; exact absurd h1 h; exact absurd h2 h; exact h⟩)
        · exact .inr (.inl ⟨h1, h2⟩)
      · exact .inl h1
    clear hno hk ht
    have hbp9 := h.cells.2.2.2.2.2.1
    have key : ∀ z W, Below X.heap.size X z → Below z.heap.size z W → StepR bp B s.comma.2 (.bool s.comma.1) X (.returned (.bool false)) W ∧ W.cell? ⟨bp, 4, none⟩ = some rv ∧ W.cell? ⟨bp, 5, none⟩ = some nv ∧ But bp X.heap.size X W := fun z W h1 h2 => by
      rw [HC.out]
      have h3 := h1.trans (h2.mono h1.size)
      exact ⟨⟨rfl, h.below h3, But.ofBelow (h3.mono hlt.2)⟩, (h3.cell (p := ⟨bp, 4, none⟩) hbp9).trans h4, (h3.cell (p := ⟨bp, 5, none⟩) hbp9).trans h5, But.ofBelow h3⟩
    clear h4 h5 hbp9
    have key := hide key
    have HX := hide h
    obtain ⟨c1, _, _, _, _, hbp, _⟩ := h.cells
    generalize s.e = e at hcase c1
    rcases hcase with he | ⟨he, h1⟩ | ⟨he, h1, h2⟩
    · have b0 : ((e : Int) != 0) = true := by simpa using he
      clear he h
      go_enter Tryd.func128, Tryd.ntmps128
      go_wp2_with (first | (go_at_call 27; refine HN.out.mono ?_; rintro e1 z ⟨rfl, hz⟩; have x1 := (hz.cell (p := ⟨bp, 1, none⟩) hbp).trans c1; have hbz := Nat.lt_of_lt_of_le hbp hz.size))
      go_ret
      exact key.out _ _ hz ((Below.refl _ _).alloc (Nat.le_refl _) _)
    · have b0 : ((e : Int) != 0) = false := by simpa using he
      have b1 : ((tk : Int) != 4) = true := by simpa using h1
      clear he h h1
      go_enter Tryd.func128, Tryd.ntmps128
      go_wp2_with (first | (go_at_call 27; refine HN.out.mono ?_; rintro e1 z ⟨rfl, hz⟩; have x1 := (hz.cell (p := ⟨bp, 1, none⟩) hbp).trans c1; have hbz := Nat.lt_of_lt_of_le hbp hz.size))
      go_ret
      exact key.out _ _ hz ((Below.refl _ _).alloc (Nat.le_refl _) _)
    · have b0 : ((e : Int) != 0) = false := by simpa using he
      have b1 : ((tk : Int) != 4) = false := by simpa using h1
      have b2 : (tt.toList == [44]) = false := by rw [lit_is]; simpa using h2
      clear he h h1 h2
      go_enter Tryd.func128, Tryd.ntmps128
      go_wp2_with (first | (go_at_call 27; refine HN.out.mono ?_; rintro e1 z ⟨rfl, hz⟩; have x1 := (hz.cell (p := ⟨bp, 1, none⟩) hbp).trans c1; have hbz := Nat.lt_of_lt_of_le hbp hz.size))
      go_ret
      exact key.out _ _ hz ((Below.refl _ _).alloc (Nat.le_refl _) _)
  · simp only [not_or, Decidable.not_not] at hno
    obtain ⟨he, rfl, rfl⟩ := hno
    have HC := hide (show s.comma = (true, (s.take 4 []).2) by unfold PS.comma; rw [if_neg (by rw [hk, ht]; simp [he])])
    obtain ⟨c1, _, _, _, _, hbp, _⟩ := h.cells
    rw [he] at c1
    have HX := hide h
    have H45 := hide (And.intro h4 h5)
    clear he hk ht h h4 h5
    go_enter Tryd.func128, Tryd.ntmps128
    go_wp2_with (first
      | (go_at_call 27; refine HN.out.mono ?_; rintro e1 z ⟨rfl, hz⟩; have x1 := (hz.cell (p := ⟨bp, 1, none⟩) hbp).trans c1; have hbz := Nat.lt_of_lt_of_le hbp hz.size)
      | (go_at_call 57; refine (take_rows 4 none 0 [] _ (PSt.below (HX.out.below hz) ((Below.refl _ _).alloc (Nat.le_refl _) _)) ((World.cell?_alloc_lt _ _ _ (Nat.lt_of_lt_of_le hbp hz.size)).trans ((hz.cell (p := ⟨bp, 4, none⟩) hbp).trans H45.out.1)) ((World.cell?_alloc_lt _ _ _ (Nat.lt_of_lt_of_le hbp hz.size)).trans ((hz.cell (p := ⟨bp, 5, none⟩) hbp).trans H45.out.2)) (by decide) (strs_none _ _) (by decide)).mono ?_; rintro e2 y ⟨rfl, hy, hby, y4, y5⟩; have hy45 := hide (And.intro y4 y5); clear y4 y5))
    go_ret
    rw [HC.out]
    exact ⟨⟨rfl, hy, (But.ofBelow ((hz.mono hlt.2).alloc (Nat.le_trans hlt.2 hz.size) _)).trans (hby.mono (by simp; exact Nat.le_trans hlt.2 (Nat.le_succ_of_le hz.size)))⟩, hy45.out.1, hy45.out.2, (But.ofBelow (hz.alloc hz.size _)).trans (hby.mono (by simp; exact Nat.le_succ_of_le hz.size))⟩

theorem PSt.butL {w w' : World} {bp B L : Nat} {s : PS} {rv nv : Value} (h : PSt w bp B s) (h4 : w.cell? ⟨bp, 4, none⟩ = some rv) (h5 : w.cell? ⟨bp, 5, none⟩ = some nv) (hL : B ≤ L) (hr : rv.ownBlock ≠ some L) (hn : nv.ownBlock ≠ some L) (hb : But L w.heap.size w w') :
    PSt w' bp B s ∧ w'.cell? ⟨bp, 4, none⟩ = some rv ∧ w'.cell? ⟨bp, 5, none⟩ = some nv := by
  obtain ⟨b, off, c, rv', nv', h1, h2, h3, h4', h5', h6, h7, h8, h9, h10, h11⟩ := h
  obtain ⟨x0, x1, x2, x3, x4, x5, x6, x7, xb⟩ := h1.cells
  obtain rfl : rv' = rv := Option.some.inj (x4.symm.trans h4)
  obtain rfl : nv' = nv := Option.some.inj (x5.symm.trans h5)
  have hP := But.blk hb h1 xb (by omega)
  have c4 := Blk.cell hP 4
  have c5 := Blk.cell hP 5
  exact ⟨⟨b, off, c, rv', nv', hP, h2, h3, h4', (Reads.but h5' (fun ad e => by injection e with e; subst e; simp; omega) hb).more hb.size, h6.kept hb.grown (.inr hr), h7.kept hb.grown (.inr hn), h8, h9, Nat.le_trans h10 hb.size, h11⟩, c4, c5⟩
set_option maxHeartbeats 1000000 in
theorem isWord_any (x word : ByteArray) (bw : Nat) (W : World) (_hb : bw < W.heap.size) (hc : W.cell? ⟨bw, 0, none⟩ = some (.string word)) :
    Calls Tryd.prog 130 #[.string x, .pointer (some ⟨bw, 0, none⟩)] W fun e w' => e = .returned (.bool (decide (x = word))) ∧ Below W.heap.size W w' := by
  have hq := hide (toList_beq x word)
  go_enter Tryd.func130, Tryd.ntmps130
  go_wp2_with fail
  go_ret
  exact ⟨ret_congr (by rw [← hq.out]; rfl), Below.refl _ _⟩
def lenV : Value → Nat | .slice _ n _ => n | _ => 0
def boolN : Value → Nat | .bool true => 1 | _ => 0
/-- the map of the classes -/
def bitE : Array MapEntry := ent3 (⟨#[109, 97, 99, 104, 105, 110, 101]⟩ : ByteArray) (⟨#[114, 97, 99, 107]⟩ : ByteArray) (⟨#[102, 101, 101, 100]⟩ : ByteArray) 1 2 4
end Go.Proofs.YtanhkeeifnimgaaDoor
