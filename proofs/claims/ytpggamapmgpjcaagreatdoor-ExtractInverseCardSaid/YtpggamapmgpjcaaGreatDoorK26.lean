/- The walk of exodusref15.Valid: whether a model is valid. Conditions: lengths that fit memory. The walk of catalog.Names and catalog.Valid: whether a model is valid. Conditions: lengths that fit memory; the table strings.asciiSpace is laid. -/
import Derived.Test.YtpggamapmgpjcaaGreatDoorK24
import Derived.Test.YtpggamapmgpjcaaGreatDoorK25
import Derived.Test.YtpggamapmgpjcaaGreatDoorK07
import Derived.Test.YtpggamapmgpjcaaGreatDoorK23
import Derived.Test.YtpggamapmgpjcaaGreatDoorK02

namespace Go.Proofs.YtpggamapmgpjcaaGreatDoor
open Go Go.RowKit Go.Proofs

theorem names_fit {w : World} {h : MH} {m : Mod} (d : MD w w.heap.size h m) : ∀ s ∈ nameList m, s.size ≤ 9223372036854775807 := by
  intro s hs
  simp only [nameList, List.mem_append, List.mem_map] at hs
  rcases hs with (((hs | hs) | ⟨x, hx, rfl⟩) | ⟨x, hx, rfl⟩) | ⟨x, hx, rfl⟩
  · exact d.sf _ hs
  · exact d.ff _ hs
  · obtain ⟨i, hi, rfl⟩ := List.getElem_of_mem hx
    obtain ⟨_, _, _, _, _, _, _, hz⟩ := d.dR.rack hi
    exact hz
  · obtain ⟨i, hi, rfl⟩ := List.getElem_of_mem hx
    obtain ⟨_, _, _, _, _, _, _, hz⟩ := d.dM.mach hi
    exact hz
  · obtain ⟨i, hi, rfl⟩ := List.getElem_of_mem hx
    obtain ⟨_, _, _, _, _, _, _, _, _, _, _, _, _, hz, _⟩ := d.dI.item hi
    exact hz
theorem valid_site {m : Mod} (h : siteB m = false) : validM m = false := by simp [validM, h]
theorem valid_items {m : Mod} (h : 8 < m.items.length) : validM m = false := by simp [validM]; omega
theorem valid_rules {m : Mod} (h : 40 < m.rules.length) : validM m = false := by simp [validM]; omega
theorem valid_names {m : Mod} (h : namesB m = false) : validM m = false := by simp [validM, h]
theorem valid_item {m : Mod} {k : Nat} (hk : k < m.items.length) (h : itemOk m m.items[k] = false) : validM m = false := by simp [validM, all_false_at' hk h]
theorem valid_rule {m : Mod} {k : Nat} (hk : k < m.rules.length) (h : ruleOk m m.rules[k] = false) : validM m = false := by simp [validM, all_false_at' hk h]
theorem valid_rest {m : Mod} (h1 : siteB m = true) (h2 : ¬ 8 < m.items.length) (h3 : ¬ 40 < m.rules.length) (h4 : namesB m = true) (h5 : m.items.all (itemOk m) = true) (h6 : m.rules.all (ruleOk m) = true) : validM m = sizesB m := by
  simp only [validM, h1, h4, h5, h6]; simp; omega
theorem siteB_lens {m : Mod} (h : siteB m = true) : m.sites.length ≤ 100 ∧ m.feeds.length ≤ 100 ∧ m.racks.length ≤ 100 ∧ m.machs.length ≤ 100 := by
  simp [siteB, exI] at h; omega
set_option maxRecDepth 100000 in
set_option maxHeartbeats 8000000 in
theorem valid15_ref (h : MH) (m : Mod) (w : World) (d : MD w w.heap.size h m) :
    Calls Tryz.prog 61 #[.agg #[.slice h.s m.sites.length h.sc, .slice h.f m.feeds.length h.fc, .slice h.r m.racks.length h.rc, .slice h.m m.machs.length h.mc, .slice h.l m.links.length h.lc, .slice h.i m.items.length h.ic, .int .i64 m.dark, .int .i64 m.slots, .int .i64 m.reserve, .int .i64 m.failures, .slice h.u m.rules.length h.uc]] w fun e w' => e = .returned (.bool (validM m)) ∧ Below w.heap.size w w' := by
  have hl5 := d.il
  have hl6 := d.ul
  have hl0 := d.sl
  have hfit := names_fit d
  have HW0 := hide (MW.start w h m)
  have D := hide d
  have hS := siteValid_ref h m (w.alloc (.cells #[.slice h.s m.sites.length h.sc, .slice h.f m.feeds.length h.fc, .slice h.r m.racks.length h.rc, .slice h.m m.machs.length h.mc, .slice h.l m.links.length h.lc, .slice h.i m.items.length h.ic, .int .i64 m.dark, .int .i64 m.slots, .int .i64 m.reserve, .int .i64 m.failures, .slice h.u m.rules.length h.uc] 29)) ((MW.start w h m).md d)
  clear d
  cases e1 : siteB m
  · have HV := hide (valid_site e1)
    rw [e1] at hS
    have HS := hide hS
    clear hS e1 hfit
    go_enter Tryz.func61, Tryz.ntmps61
    go_wp2_with (go_at_call 104; refine HS.out.mono ?_; rintro e w1 ⟨rfl, hb1⟩; have hW1 := HW0.out.grow hb1)
    go_ret
    exact ⟨ret_congr (by rw [HV.out]; rfl), hW1.b⟩
  rw [e1] at hS
  have HS := hide hS
  clear hS
  by_cases e2 : 8 < m.items.length
  · have HV := hide (valid_items e2)
    clear e1 hfit
    go_enter Tryz.func61, Tryz.ntmps61
    go_wp2_with (go_at_call 104; refine HS.out.mono ?_; rintro e w1 ⟨rfl, hb1⟩; have hW1 := HW0.out.grow hb1; obtain ⟨a0, a1, a2, a3, a4, a5, a6, a7, a8, a9, a10⟩ := MB.cells hW1.blk; have ha := hW1.lt; clear hb1)
    go_ret
    exact ⟨ret_congr (by rw [HV.out]; rfl), hW1.b⟩
  by_cases e3 : 40 < m.rules.length
  · have HV := hide (valid_rules e3)
    clear e1 hfit
    go_enter Tryz.func61, Tryz.ntmps61
    go_wp2_with (go_at_call 104; refine HS.out.mono ?_; rintro e w1 ⟨rfl, hb1⟩; have hW1 := HW0.out.grow hb1; obtain ⟨a0, a1, a2, a3, a4, a5, a6, a7, a8, a9, a10⟩ := MB.cells hW1.blk; have ha := hW1.lt; clear hb1)
    go_ret
    exact ⟨ret_congr (by rw [HV.out]; rfl), hW1.b⟩
  obtain ⟨z1, z2, z3, z4⟩ := siteB_lens e1
  have HN := hide fun (W : World) (hW : MW w w.heap.size W h m) => namesB_ref h m W (hW.md D.out) z1 z2 z3 z4 (by omega) hfit
  clear hfit z1 z2 z3 z4
  cases e4 : namesB m
  · have HV := hide (valid_names e4)
    rw [e4] at HN
    clear e1 e4
    go_enter Tryz.func61, Tryz.ntmps61
    go_wp2_with (first
      | (go_at_call 104; refine HS.out.mono ?_; rintro e w1 ⟨rfl, hb1⟩; have hW1 := HW0.out.grow hb1; obtain ⟨a0, a1, a2, a3, a4, a5, a6, a7, a8, a9, a10⟩ := MB.cells hW1.blk; have ha := hW1.lt; clear hb1)
      | (go_at_call 105; refine (HN.out _ hW1).mono ?_; rintro e w2 ⟨rfl, hb2⟩; have hW2 := hW1.grow hb2))
    go_ret
    exact ⟨ret_congr (by rw [HV.out]; rfl), hW2.b⟩
  rw [e4] at HN
  have HR := hide fun h5 h6 => valid_rest e1 e2 e3 e4 h5 h6
  clear e1 e4
  go_enter Tryz.func61, Tryz.ntmps61
  go_wp2_with (first
    | (go_at_call 104; refine HS.out.mono ?_; rintro e w1 ⟨rfl, hb1⟩; have hW1 := HW0.out.grow hb1; obtain ⟨a0, a1, a2, a3, a4, a5, a6, a7, a8, a9, a10⟩ := MB.cells hW1.blk; have ha := hW1.lt; clear hb1)
    | (go_at_call 105; refine (HN.out _ hW1).mono ?_; rintro e w2 ⟨rfl, hb2⟩; have hW2 := hW1.grow hb2))
  have HW2 := hide hW2
  clear e2 e3 hW1 hW2 hb2 a0 a1 a2 a3 a4 a5 a6 a7 a8 a9 a10 HS HN
  go_loopw [3] (fun i wr => ∃ k : Nat, k ≤ m.items.length ∧ i = .int .i64 k ∧ Hid (MW w w.heap.size wr h m) ∧ Hid (∀ j (hj : j < m.items.length), j < k → itemOk m m.items[j] = true)) (fun i _ => m.items.length - (intOf i).toNat)
  case atStart => exact ⟨0, Nat.zero_le _, rfl, HW2, fun j hj h0 => absurd h0 (by omega)⟩
  case round =>
    clear HW2
    obtain ⟨k, hk, rfl, hW, hs⟩ := hrel
    obtain ⟨a0, a1, a2, a3, a4, a5, a6, a7, a8, a9, a10⟩ := MB.cells hW.out.blk
    have hlt0 := hW.out.lt
    by_cases hlt : k < m.items.length
    · obtain ⟨b, off, A2, c2, hA, hb, x0, x1, x2, x3, x4, x5, x6, g1, g2, g3, gI⟩ := (hW.out.md D.out).dI.item hlt
      have hb1 := hide fun (n : Nat) => item15_ref { h with i := some ⟨b, off, none⟩ } m m.items[k] A2 c2 (wr.drewN n) (by omega) (gI.grow (below_drawn (Below.refl _ _) n))
      have HC := hide (show Calls Tryz.prog 106 #[.agg #[.slice h.s m.sites.length h.sc, .slice h.f m.feeds.length h.fc, .slice h.r m.racks.length h.rc, .slice h.m m.machs.length h.mc, .slice h.l m.links.length h.lc, .slice (some ⟨b, off, none⟩) m.items.length h.ic, .int .i64 m.dark, .int .i64 m.slots, .int .i64 m.reserve, .int .i64 m.failures, .slice h.u m.rules.length h.uc], .agg #[.string m.items[k].name, .int .i64 m.items[k].kind, .int .i64 m.items[k].count, .int .i64 m.items[k].load, .int .i64 m.items[k].size, .int .i64 m.items[k].share, .slice A2 m.items[k].on.length c2]] wr.drew (fun e w' => e = .returned (.bool (itemOk m m.items[k])) ∧ Below wr.drew.heap.size wr.drew w') from hb1.out 1)
      rw [hA] at a5
      have hltI : (k : Int) < (m.items.length : Int) := by omega
      clear hA hb1 gI
      cases e5 : itemOk m m.items[k]
      · have HV := hide (valid_item hlt e5)
        rw [e5] at HC
        go_wp2_with fail
        go_region_with ((with_reducible refine HC.out.mono ?_); rintro e w3 ⟨rfl, hb3⟩)
        all_goals
          go_wp2_with fail
          go_ret
          exact ⟨ret_congr (by rw [HV.out]; rfl), (hW.out.drew.grow hb3).b⟩
      · rw [e5] at HC
        have HK := hide e5
        clear e5
        go_wp2_with fail
        go_region_with ((with_reducible refine HC.out.mono ?_); rintro e w3 ⟨rfl, hb3⟩)
        all_goals
          go_wp2_with fail
          go_roundw
          case rel => exact ⟨k + 1, by omega, by go_num, hide (hW.out.drew.grow hb3), fun j hj h1 => by
            rcases Nat.lt_or_ge j k with h2 | h2
            · exact hs j hj h2
            · obtain rfl : j = k := by omega
              exact HK⟩
          case measure => simp [intOf]; omega
    · have HI := hide (show m.items.all (itemOk m) = true from all_true_of' fun q hq => hs q hq (by omega))
      go_wp2_with fail
      clear a0 a1 a2 a3 a4 a5 a6 a7 a8 a9 a10 hs
      go_loopw [4] (fun i wr => ∃ k : Nat, k ≤ m.rules.length ∧ i = .int .i64 k ∧ Hid (MW w w.heap.size wr h m) ∧ Hid (∀ j (hj : j < m.rules.length), j < k → ruleOk m m.rules[j] = true)) (fun i _ => m.rules.length - (intOf i).toNat)
      case atStart => exact ⟨0, Nat.zero_le _, rfl, hW, fun j hj h0 => absurd h0 (by omega)⟩
      case round =>
        clear hW hlt0 hlt hk
        obtain ⟨k, hk, rfl, hW, hs⟩ := hrel
        obtain ⟨a0, a1, a2, a3, a4, a5, a6, a7, a8, a9, a10⟩ := MB.cells hW.out.blk
        have hlt0 := hW.out.lt
        by_cases hlt : k < m.rules.length
        · obtain ⟨b, off, A2, c2, hA, hb, x0, x1, x2, x3, x4, x5, x6, g2, g3, gI⟩ := (hW.out.md D.out).dU.rule hlt
          have hd2 : MD wr wr.heap.size { h with u := some ⟨b, off, none⟩ } m := by
            have hd := hW.out.md D.out
            have e : ({ h with u := some ⟨b, off, none⟩ } : MH) = h := by rw [← hA]
            rw [e]; exact hd
          have hb1 := hide fun (n : Nat) => rule15_ref { h with u := some ⟨b, off, none⟩ } m m.rules[k] A2 c2 (wr.drewN n) (hd2.grow (below_drawn (Below.refl _ _) n)) (by omega) (gI.grow (below_drawn (Below.refl _ _) n))
          have HC := hide (show Calls Tryz.prog 107 #[.agg #[.slice h.s m.sites.length h.sc, .slice h.f m.feeds.length h.fc, .slice h.r m.racks.length h.rc, .slice h.m m.machs.length h.mc, .slice h.l m.links.length h.lc, .slice h.i m.items.length h.ic, .int .i64 m.dark, .int .i64 m.slots, .int .i64 m.reserve, .int .i64 m.failures, .slice (some ⟨b, off, none⟩) m.rules.length h.uc], .agg #[.int .i64 m.rules[k].kind, .int .i64 m.rules[k].item, .int .i64 m.rules[k].other, .int .i64 m.rules[k].n, .int .i64 m.rules[k].by_, .bool m.rules[k].always, .slice A2 m.rules[k].machines.length c2]] wr.drew (fun e w' => e = .returned (.bool (ruleOk m m.rules[k])) ∧ Below wr.drew.heap.size wr.drew w') from hb1.out 1)
          rw [hA] at a10
          have hltI : (k : Int) < (m.rules.length : Int) := by omega
          clear hA hb1 gI hd2
          cases e5 : ruleOk m m.rules[k]
          · have HV := hide (valid_rule hlt e5)
            rw [e5] at HC
            go_wp2_with fail
            go_region_with ((with_reducible refine HC.out.mono ?_); rintro e w3 ⟨rfl, hb3⟩)
            all_goals
              go_wp2_with fail
              go_ret
              exact ⟨ret_congr (by rw [HV.out]; rfl), (hW.out.drew.grow hb3).b⟩
          · rw [e5] at HC
            have HK := hide e5
            clear e5
            go_wp2_with fail
            go_region_with ((with_reducible refine HC.out.mono ?_); rintro e w3 ⟨rfl, hb3⟩)
            all_goals
              go_wp2_with fail
              go_roundw
              case rel => exact ⟨k + 1, by omega, by go_num, hide (hW.out.drew.grow hb3), fun j hj h1 => by
                rcases Nat.lt_or_ge j k with h2 | h2
                · exact hs j hj h2
                · obtain rfl : j = k := by omega
                  exact HK⟩
              case measure => simp [intOf]; omega
        · have HZ := hide (HR.out HI.out (all_true_of' fun q hq => hs q hq (by omega)))
          have HB := hide hW.out.b
          have HQ := hide (show sizesB m = (exI m.dark m.sites.length && wiI m.slots 1 16 && wiI m.reserve 0 (m.slots - 1) && wiI m.failures 0 7) from rfl)
          cases f1 : exI m.dark m.sites.length
          · go_wp2_with (go_at_call 108; refine (exists_ref _ _ _).mono ?_; rintro e w2 ⟨rfl, rfl⟩)
            go_ret
            exact ⟨ret_congr (by rw [HZ.out, HQ.out, f1]; rfl), HB.out⟩
          cases f2 : wiI m.slots 1 16
          · go_wp2_with (first
              | (go_at_call 108; refine (exists_ref _ _ _).mono ?_; rintro e w2 ⟨rfl, rfl⟩)
              | (go_at_call 109; refine (within_ref _ _ _ _).mono ?_; rintro e w2 ⟨rfl, rfl⟩))
            go_ret
            exact ⟨ret_congr (by rw [HZ.out, HQ.out, f1, f2]; rfl), HB.out⟩
          have fb : 1 ≤ m.slots ∧ m.slots ≤ 16 := by simpa [wiI] using f2
          obtain ⟨fb1, fb2⟩ := fb
          cases f3 : wiI m.reserve 0 (m.slots - 1) <;> cases f4 : wiI m.failures 0 7
          all_goals
            go_wp2_with (first
              | (go_at_call 108; refine (exists_ref _ _ _).mono ?_; rintro e w2 ⟨rfl, rfl⟩)
              | (go_at_call 109; refine (within_ref _ _ _ _).mono ?_; rintro e w2 ⟨rfl, rfl⟩))
            go_ret
            exact ⟨ret_congr (by rw [HZ.out, HQ.out, f1, f2, f3, f4]; rfl), HB.out⟩
end Go.Proofs.YtpggamapmgpjcaaGreatDoor

namespace Go.Proofs.YtpggamapmgpjcaaGreatDoor
open Go Go.RowKit Go.Proofs

/-! A map with string keys that is filled one by one -/
theorem checkKey_str {P : Program} {K : TypeId} (hk : P.underlying K = some .string) (e : Bool) (n : Nat) (k : ByteArray) (w : World) :
    (Instr.checkKey e (n + 1) K (.string k)).run P w = .ok () w := by
  unfold Instr.checkKey
  simp [Sem.run_bind, run_underlying hk]
theorem run_findKey_str {P : Program} {K : TypeId} (hk : P.underlying K = some .string) (k : ByteArray) (es : List MapEntry) {r : Option (Nat × Value)} (hf : Instr.findNow .string (.string k) es 0 = some r) (w : World) :
    (Instr.findKey K (.string k) es).run P w = .ok r w := by
  unfold Instr.findKey
  simp [Sem.run_bind, run_underlying hk, hf]
theorem ba_beq (a b : ByteArray) : (a == b) = decide (a = b) := by
  obtain ⟨x⟩ := a
  obtain ⟨y⟩ := b
  show (x == y) = _
  rw [Bool.eq_iff_iff]
  simp
def setW (w : World) (r : Nat) (o : Obj) : World := { w with heap := w.heap.setIfInBounds r o }
theorem setObj_run {P : Program} {w : World} {r : Nat} {es : Array MapEntry} {c : Nat} (h : w.heap[r]? = some (.map es c)) (o : Obj) : (setObj r o).run P w = .ok () (setW w r o) := by
  simp only [setObj, Sem.run, h]; rfl
theorem setW_at {w : World} {r : Nat} (h : r < w.heap.size) (o : Obj) : (setW w r o).heap[r]? = some o := by simp [setW, h]
theorem setW_but (w : World) (r B : Nat) (o : Obj) : But r B w (setW w r o) := ⟨rfl, rfl, rfl, by simp [setW], fun k _ hn => by simp only [setW]; rw [Array.getElem?_setIfInBounds]; simp [Ne.symm hn]⟩
theorem wpList_mapUpdate_newS {P : Program} {ops : Array Oper} {rest : List Oper} {o : Oper} {a : Act} {Q : Exit → Act → World → Prop} {w : World} (hgd : o.guard = none) (hd : o.dst = none) (t : TypeId) (m k v : Operand)
    (ho : o.op = .mapUpdate t m k v) {K E : TypeId} (ht : P.underlying t = some (.map K E)) (hk : P.underlying K = some .string) {es : Array MapEntry} {c : Nat} {kk : ByteArray} {vv : Value} {r : Nat}
    (hr : w.heap[r]? = some (.map es c)) (hm : a.eval m = .map (some r)) (hkv : a.eval k = .string kk) (hv : a.eval v = vv) (hf : Instr.findNow .string (.string kk) es.toList 0 = some none)
    (h : ∀ w1 : World, w1.heap[r]? = some (.map (es.push { key := .string kk, val := vv, born := c }) (c + 1)) → But r w.heap.size w w1 → wpList P ops Q rest a w1) : wpList P ops Q (o :: rest) a w :=
  wpList_plain hgd fun K' hK => by
    have hlt : r < w.heap.size := (Array.getElem?_eq_some_iff.1 hr).1
    unfold Oper.wp execOp
    simp only [ho, hm, hkv, hv, Sem.run_bind, Instr.mapUpdate, run_underlying ht, getObj_run hr, checkKey_str hk, run_findKey_str hk kk es.toList hf, setObj_run hr, Result.andThen_ok, Sem.run_pure, Oper.upon_skip, hd]
    exact hK _ _ (h _ (setW_at hlt _) (setW_but w r _ _))
def entS (l : List ByteArray) : Array MapEntry := (l.zipIdx.map fun x => ({ key := .string x.1, val := .bool true, born := x.2 } : MapEntry)).toArray
theorem entS_push (l : List ByteArray) (s : ByteArray) : (entS l).push { key := .string s, val := .bool true, born := l.length } = entS (l ++ [s]) := by
  simp [entS, List.zipIdx_append]
theorem findS : ∀ (l : List ByteArray) (s : ByteArray) (i n : Nat), ∃ o, Instr.findNow .string (.string s) ((l.zipIdx n).map fun x => ({ key := .string x.1, val := .bool true, born := x.2 } : MapEntry)) i = some o ∧ ((hasS l s = true → ∃ j, o = some (j, .bool true)) ∧ (hasS l s = false → o = none))
  | [], s, i, n => ⟨none, rfl, by simp [hasS], fun _ => rfl⟩
  | x :: l, s, i, n => by
    by_cases h : s = x
    · refine ⟨some (i, .bool true), ?_, fun _ => ⟨i, rfl⟩, fun hf => by simp [hasS, h] at hf⟩
      simp only [List.zipIdx_cons, List.map_cons, Instr.findNow, Instr.sameNow, ba_beq, h, decide_true]
    · obtain ⟨o, h1, h2, h3⟩ := findS l s (i + 1) (n + 1)
      have hx : hasS (x :: l) s = hasS l s := by simp [hasS, Ne.symm h]
      refine ⟨o, ?_, by rw [hx]; exact h2, by rw [hx]; exact h3⟩
      simp only [List.zipIdx_cons, List.map_cons, Instr.findNow, Instr.sameNow, ba_beq, decide_eq_false h]
      exact h1
theorem look_entS {w : World} {r : Nat} {l : List ByteArray} {c : Nat} (h : w.heap[r]? = some (.map (entS l) c)) (s : ByteArray) :
    (Instr.lookup 97 (.map (some r)) (.string s) false).run Tryz.prog w = .ok (.bool (hasS l s)) w := by
  obtain ⟨o, h1, h2, h3⟩ := findS l s 0 0
  have hz : (zeroValue 4).run Tryz.prog w = .ok (.bool false) w := by kernel_rfl
  have h1' : Instr.findNow .string (.string s) (entS l).toList 0 = some o := h1
  unfold Instr.lookup
  simp [Sem.run_bind, run_underlying Tryz.underlying97, getObj_run h, checkKey_str Tryz.underlying9, run_findKey_str Tryz.underlying9 s (entS l).toList h1']
  cases hs : hasS l s
  · rw [h3 hs]
    simp [hz]
  · obtain ⟨j, rfl⟩ := h2 hs
    simp

set_option maxRecDepth 100000 in
set_option maxHeartbeats 4000000 in
theorem names_prog (h : MH) (m : Mod) (w : World) (d : MD w w.heap.size h m) (q1 : m.sites.length ≤ 100) (q2 : m.feeds.length ≤ 100) (q3 : m.racks.length ≤ 100) (q4 : m.machs.length ≤ 100) (q5 : m.items.length ≤ 100) :
    Calls Tryz.prog 44 #[.agg #[.slice h.s m.sites.length h.sc, .slice h.f m.feeds.length h.fc, .slice h.r m.racks.length h.rc, .slice h.m m.machs.length h.mc, .slice h.l m.links.length h.lc, .slice h.i m.items.length h.ic, .int .i64 m.dark, .int .i64 m.slots, .int .i64 m.reserve, .int .i64 m.failures, .slice h.u m.rules.length h.uc]] w fun e w' => ∃ A c, e = .returned (.slice A (nameList m).length c) ∧ (nameList m).length ≤ c ∧ Strs w' w'.heap.size A (nameList m) ∧ Below w.heap.size w w' := by
  have hB2 := two_blocks w #[.slice h.s m.sites.length h.sc, .slice h.f m.feeds.length h.fc, .slice h.r m.racks.length h.rc, .slice h.m m.machs.length h.mc, .slice h.l m.links.length h.lc, .slice h.i m.items.length h.ic, .int .i64 m.dark, .int .i64 m.slots, .int .i64 m.reserve, .int .i64 m.failures, .slice h.u m.rules.length h.uc] #[.slice none 0 0] 29 22
  have hC0 : Coll (w.heap.size + 1 + 1) (w.heap.size + 1) ((w.alloc (.cells #[.slice h.s m.sites.length h.sc, .slice h.f m.feeds.length h.fc, .slice h.r m.racks.length h.rc, .slice h.m m.machs.length h.mc, .slice h.l m.links.length h.lc, .slice h.i m.items.length h.ic, .int .i64 m.dark, .int .i64 m.slots, .int .i64 m.reserve, .int .i64 m.failures, .slice h.u m.rules.length h.uc] 29)).alloc (.cells #[.slice none 0 0] 22)) [] :=
    ⟨_, by simpa using Blk.new (w.alloc (.cells #[.slice h.s m.sites.length h.sc, .slice h.f m.feeds.length h.fc, .slice h.r m.racks.length h.rc, .slice h.m m.machs.length h.mc, .slice h.l m.links.length h.lc, .slice h.i m.items.length h.ic, .int .i64 m.dark, .int .i64 m.slots, .int .i64 m.reserve, .int .i64 m.failures, .slice h.u m.rules.length h.uc] 29)) 22 #[.slice none 0 0], OwnS.nil_ _ _⟩
  have HE := hide (each_names h m (w.heap.size + 1) w.heap.size ((w.alloc (.cells #[.slice h.s m.sites.length h.sc, .slice h.f m.feeds.length h.fc, .slice h.r m.racks.length h.rc, .slice h.m m.machs.length h.mc, .slice h.l m.links.length h.lc, .slice h.i m.items.length h.ic, .int .i64 m.dark, .int .i64 m.slots, .int .i64 m.reserve, .int .i64 m.failures, .slice h.u m.rules.length h.uc] 29)).alloc (.cells #[.slice none 0 0] 22)) (d.below hB2) (by omega) (by simpa using hC0) (by simp) q1 q2 q3 q4 q5)
  have HB := hide hB2
  clear hB2 hC0 d
  go_enter Tryz.func44, Tryz.ntmps44
  go_wp2_with (go_at_call 78; refine HE.out.mono ?_; rintro e w1 ⟨rfl, hC, hbut⟩
               obtain ⟨v, hv1, hv2⟩ := hC.ex
               have v0 := hv1.cell 0
               have vlt := hv1.lt
               simp at v0
               obtain ⟨A, c, rfl, hc, hS⟩ := hv2.form3)
  go_ret
  exact ⟨A, c, rfl, hc, hS, HB.out.trans (hbut.below2 (by simp; omega) (by omega))⟩
end Go.Proofs.YtpggamapmgpjcaaGreatDoor
