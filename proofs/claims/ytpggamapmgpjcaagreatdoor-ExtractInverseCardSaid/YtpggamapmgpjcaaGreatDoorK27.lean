/- The walk of catalog.Valid at valid models: it answers true. Conditions: lengths that fit memory; the table strings.asciiSpace is laid. -/
import Derived.Test.YtpggamapmgpjcaaGreatDoorK26

namespace Go.Proofs.YtpggamapmgpjcaaGreatDoor
open Go Go.RowKit Go.Proofs

theorem valid_parts {m : Mod} (h : validM m = true) : siteB m = true ∧ ¬ 8 < m.items.length ∧ ¬ 40 < m.rules.length ∧ namesB m = true ∧ m.items.all (itemOk m) = true ∧ m.rules.all (ruleOk m) = true ∧ exI m.dark m.sites.length = true ∧ wiI m.slots 1 16 = true ∧ wiI m.reserve 0 (m.slots - 1) = true ∧ wiI m.failures 0 7 = true := by
  simp only [validM, sizesB, Bool.and_eq_true, decide_eq_true_eq] at h
  obtain ⟨⟨⟨⟨⟨⟨h1, h2⟩, h3⟩, h4⟩, h5⟩, h6⟩, ⟨⟨⟨h7, h8⟩, h9⟩, h10⟩⟩ := h
  exact ⟨h1, by omega, by omega, h4, h5, h6, h7, h8, h9, h10⟩
set_option maxHeartbeats 1000000 in
theorem item_bad (h : MH) (m : Mod) (bm : Nat) (W : World) (x : ItemM) (A : Option Addr) (c : Nat) (hM : Blk W bm 29 #[.slice h.s m.sites.length h.sc, .slice h.f m.feeds.length h.fc, .slice h.r m.racks.length h.rc, .slice h.m m.machs.length h.mc, .slice h.l m.links.length h.lc, .slice h.i m.items.length h.ic, .int .i64 m.dark, .int .i64 m.slots, .int .i64 m.reserve, .int .i64 m.failures, .slice h.u m.rules.length h.uc]) (l0 : m.machs.length ≤ 9223372036854775807) (hl : x.on.length ≤ c) (hc : c ≤ 9223372036854775807) (hI : Ints W W.heap.size A x.on) :
    Calls Tryz.prog 47 #[.agg #[.string x.name, .int .i64 x.kind, .int .i64 x.count, .int .i64 x.load, .int .i64 x.size, .int .i64 x.share, .slice A x.on.length c], .pointer (some ⟨bm, 0, none⟩)] W fun e w' => e = .returned (.bool (!itemOk m x)) ∧ Below W.heap.size W w' := by
  obtain ⟨c0, c1, c2, c3, c4, c5, c6, c7, c8, c9, c10⟩ := MB.cells hM
  have hlt := hM.lt
  have hB := (Below.refl W.heap.size W).alloc (Nat.le_refl _) (.cells #[.string x.name, .int .i64 x.kind, .int .i64 x.count, .int .i64 x.load, .int .i64 x.size, .int .i64 x.share, .slice A x.on.length c] 91)
  have HC := hide (item14_prog h m x A c _ (by omega) l0 (hI.grow hB))
  have HB := hide hB
  clear hB hM
  go_enter Tryz.func47, Tryz.ntmps47
  go_wp2_with (go_at_call 48; refine HC.out.mono ?_; rintro e w1 ⟨rfl, hb1⟩)
  go_ret
  exact ⟨rfl, HB.out.trans (hb1.mono HB.out.size)⟩
set_option maxHeartbeats 1000000 in
theorem rule_bad (h : MH) (m : Mod) (bm : Nat) (W : World) (x : RuleM) (A : Option Addr) (c : Nat) (hM : Blk W bm 29 #[.slice h.s m.sites.length h.sc, .slice h.f m.feeds.length h.fc, .slice h.r m.racks.length h.rc, .slice h.m m.machs.length h.mc, .slice h.l m.links.length h.lc, .slice h.i m.items.length h.ic, .int .i64 m.dark, .int .i64 m.slots, .int .i64 m.reserve, .int .i64 m.failures, .slice h.u m.rules.length h.uc]) (d : MD W W.heap.size h m) (hl : x.machines.length ≤ c) (hc : c ≤ 9223372036854775807) (hI : Ints W W.heap.size A x.machines) :
    Calls Tryz.prog 50 #[.agg #[.int .i64 x.kind, .int .i64 x.item, .int .i64 x.other, .int .i64 x.n, .int .i64 x.by_, .bool x.always, .slice A x.machines.length c], .pointer (some ⟨bm, 0, none⟩)] W fun e w' => e = .returned (.bool (!ruleOk m x)) ∧ Below W.heap.size W w' := by
  obtain ⟨c0, c1, c2, c3, c4, c5, c6, c7, c8, c9, c10⟩ := MB.cells hM
  have hlt := hM.lt
  have hB := (Below.refl W.heap.size W).alloc (Nat.le_refl _) (.cells #[.int .i64 x.kind, .int .i64 x.item, .int .i64 x.other, .int .i64 x.n, .int .i64 x.by_, .bool x.always, .slice A x.machines.length c] 105)
  have HC := hide (rule14_ok h m x A c _ (d.grow hB) (by omega) (hI.grow hB))
  have HB := hide hB
  clear hB hM d hI
  go_enter Tryz.func50, Tryz.ntmps50
  go_wp2_with (go_at_call 51; refine HC.out.mono ?_; rintro e w1 ⟨rfl, hb1⟩)
  go_ret
  exact ⟨rfl, HB.out.trans (hb1.mono HB.out.size)⟩
theorem any_not' {α : Type} (l : List α) (p : α → Bool) : l.any (fun x => !p x) = !l.all p := List.not_all_eq_any_not.symm
theorem MW.but {w wr w2 : World} {bm g : Nat} {h : MH} {m : Mod} (d : MW w bm wr h m) (hb : But g wr.heap.size wr w2) (hg : w.heap.size ≤ g) (hne : bm ≠ g) : MW w bm w2 h m :=
  ⟨d.b.trans (hb.below2 d.b.size hg), hb.blk d.blk d.lt hne⟩
theorem cell?_mapBut {w w1 : World} {r c c' : Nat} {es es' : Array MapEntry} (h : w.heap[r]? = some (.map es c)) (h1 : w1.heap[r]? = some (.map es' c')) (hb : But r w.heap.size w w1) (p : Addr) (hp : p.block < w.heap.size) : w1.cell? p = w.cell? p := by
  by_cases e : p.block = r
  · simp [World.cell?, e, h, h1]
  · exact World.cell?_of_block (hb.block _ hp e)
theorem findS_none {l : List ByteArray} {s : ByteArray} (h : hasS l s = false) : Instr.findNow .string (.string s) (entS l).toList 0 = some none := by
  obtain ⟨o, h1, _, h3⟩ := findS l s 0 0
  rw [h3 h] at h1
  exact h1
set_option maxRecDepth 100000 in
set_option maxHeartbeats 8000000 in
theorem validM_prog (h : MH) (m : Mod) (w : World) (d : MD w w.heap.size h m) (k1 : m.racks.length ≤ h.rc) (k2 : m.machs.length ≤ h.mc) (k3 : m.links.length ≤ h.lc) (ha : Asc w) (hv : validM m = true) :
    Calls Tryz.prog 25 #[.agg #[.slice h.s m.sites.length h.sc, .slice h.f m.feeds.length h.fc, .slice h.r m.racks.length h.rc, .slice h.m m.machs.length h.mc, .slice h.l m.links.length h.lc, .slice h.i m.items.length h.ic, .int .i64 m.dark, .int .i64 m.slots, .int .i64 m.reserve, .int .i64 m.failures, .slice h.u m.rules.length h.uc]] w fun e w' => e = .returned (.bool true) ∧ Below w.heap.size w w' := by
  obtain ⟨v1, v2, v3, v4, v5, v6, v7, v8, v9, v10⟩ := valid_parts hv
  have hl0 := d.sl
  have hl5 := d.il
  have hl6 := d.ul
  have hl3 := d.ml
  have hfit := names_fit d
  have HW0 := hide (MW.start w h m)
  have D := hide d
  have hmm := @run_makeMap Tryz.prog
  have hS := siteValid_prog h m (w.alloc (.cells #[.slice h.s m.sites.length h.sc, .slice h.f m.feeds.length h.fc, .slice h.r m.racks.length h.rc, .slice h.m m.machs.length h.mc, .slice h.l m.links.length h.lc, .slice h.i m.items.length h.ic, .int .i64 m.dark, .int .i64 m.slots, .int .i64 m.reserve, .int .i64 m.failures, .slice h.u m.rules.length h.uc] 29)) ((MW.start w h m).md d) k1 k2 k3
  rw [v1] at hS
  have HS := hide hS
  obtain ⟨z1, z2, z3, z4⟩ := siteB_lens v1
  have fb : 1 ≤ m.slots ∧ m.slots ≤ 16 := by simpa [wiI] using v8
  obtain ⟨fb1, fb2⟩ := fb
  have HV7 := hide (show wiI m.dark 1 m.sites.length = true from v7)
  have hv7 := HV7.out
  have HN := hide fun (W : World) (hW : MW w w.heap.size W h m) => names_prog h m W (hW.md D.out) z1 z2 z3 z4 (by omega)
  have HL := hide (show (nameList m).length ≤ 600 by rw [← nmI_all]; exact (nm_len z1 z2 z3 z4 (by omega) _).2.2)
  have HF := hide hfit
  have HX := hide (And.intro v4 (And.intro v5 v6))
  have HA := hide ha
  clear hS hfit v1 z1 z2 z3 z4 v4 v5 v6 v7 hv d ha
  go_enter Tryz.func25, Tryz.ntmps25
  go_wp2_with (first
    | (go_at_call 42; refine HS.out.mono ?_; rintro e w1 ⟨rfl, hb1⟩; have hW1 := HW0.out.grow hb1; obtain ⟨a0, a1, a2, a3, a4, a5, a6, a7, a8, a9, a10⟩ := MB.cells hW1.blk; have ha := hW1.lt; clear hb1)
    | (go_at_call 43; refine (within_prog _ _ _ _).mono ?_; rintro e w2 ⟨rfl, rfl⟩)
    | (go_at_call 44; refine (HN.out _ (hW1.grow ((Below.refl _ _).alloc (Nat.le_refl _) (.map #[] 0)))).mono ?_; rintro e w2 ⟨A, c, rfl, hc, hStr, hb2⟩
       have hW2 := (hW1.grow ((Below.refl _ _).alloc (Nat.le_refl _) (.map #[] 0))).grow hb2
       have hmp : w2.heap[w1.heap.size]? = some (.map (entS []) 0) := (hb2.block w1.heap.size (by simp)).trans (heap_alloc_new w1 _)))
  have hW1lt : w.heap.size < w1.heap.size := hW1.lt
  have HS0 := hide (And.intro hW2 (And.intro hmp hStr))
  have H12 := hide (show w1.heap.size < w2.heap.size from by have := hb2.size; simp at this; omega)
  clear hW1 hW2 hmp hStr hb2 a0 a1 a2 a3 a4 a5 a6 a7 a8 a9 a10 hv7 v8 v9 v10 HS HW0 HN
  go_loopw [55] (fun i wr => ∃ k : Nat, k ≤ (nameList m).length ∧ i = .int .i64 k ∧ w1.heap.size < wr.heap.size ∧ Hid (MW w w.heap.size wr h m) ∧ Hid (wr.heap[w1.heap.size]? = some (.map (entS ((nameList m).take k)) k)) ∧ Hid (Strs wr w2.heap.size A (nameList m) ∧ w2.heap.size ≤ wr.heap.size)) (fun i _ => (nameList m).length - (intOf i).toNat)
  case atStart => exact ⟨0, Nat.zero_le _, rfl, H12.out, HS0.out.1, HS0.out.2.1, ⟨HS0.out.2.2, Nat.le_refl _⟩⟩
  case round =>
    clear HS0 H12
    obtain ⟨k, hk, rfl, hw1, hW, hMp, hStr⟩ := hrel
    have hnl := HL.out
    have hW0lt := hW.out.lt
    by_cases hlt : k < (nameList m).length
    · obtain ⟨b, off, hA, hb, x0⟩ := str_at hStr.out.1 hlt
      subst hA
      have hbw : b < wr.heap.size := by have := hStr.out.2; omega
      have hok := (soundB_iff (p := fun s pre => isName s && !hasS pre s)).1 HX.out.1 k hlt
      simp only [Bool.and_eq_true, Bool.not_eq_true'] at hok
      obtain ⟨o1, o2⟩ := hok
      have HI := hide (isName_prog (nameList m)[k] wr (HA.out.below (Nat.le_refl _) hW.out.b) (HF.out _ (List.getElem_mem hlt)))
      rw [o1] at HI
      have HP := hide (entS_push ((nameList m).take k) (nameList m)[k])
      have HTK := hide (show (nameList m).take k ++ [(nameList m)[k]] = (nameList m).take (k + 1) by rw [List.take_succ_eq_append_getElem hlt])
      have HLN := hide (show ((nameList m).take k).length = k by simp; omega)
      have HFN := hide (findS_none o2)
      have O2 := hide o2
      clear o1 o2
      generalize hnm : (nameList m)[k] = nm at *
      clear hnm
      go_wp2_with (first
        | (go_at_call 45; refine HI.out.mono ?_; rintro e w3 ⟨rfl, hb3⟩
           have hM3 : w3.heap[w1.heap.size]? = some (.map (entS ((nameList m).take k)) k) := (hb3.block _ hw1).trans hMp.out
           have hlk := look_entS hM3 nm
           rw [O2.out] at hlk
           have HM3 := hide hM3
           have hs3 := hb3.size
           clear hM3)
        | (refine wpList_mapUpdate_newS rfl rfl _ _ _ _ rfl Tryz.underlying97 Tryz.underlying9 HM3.out rfl rfl rfl HFN.out ?_; intro w4 hM4 hb4
           have HM4 := hide hM4
           have HB4 := hide hb4
           clear hM4 hb4))
      have hS4 : Strs w4 w2.heap.size (some ⟨b, off, none⟩) (nameList m) := (hStr.out.1.keep fun p hp => hb3.cell (by have := hStr.out.2; omega)).keep fun p hp => cell?_mapBut HM3.out HM4.out HB4.out p (by have := hStr.out.2; omega)
      have hs4 := HB4.out.size
      have hM4' : w4.heap[w1.heap.size]? = some (.map (entS ((nameList m).take (k + 1))) (k + 1)) := by
        rw [← HTK.out, ← HP.out, HLN.out]; exact HM4.out
      go_roundw
      case rel => exact ⟨k + 1, by omega, by go_num, by omega, hide ((hW.out.grow hb3).but HB4.out (by omega) (by omega)), hM4', ⟨hS4, by have := hStr.out.2; omega⟩⟩
      case measure => simp [intOf]; omega
    · have hWm := hW.out
      have HIt := hide (containsFunc_Item 47 #[.pointer (some ⟨w.heap.size, 0, none⟩)] (fun _ _ => by kernel_rfl) (fun x => !itemOk m x) h.i h.ic m.items wr hl5 (hWm.md D.out).dI (fun i hi A2 c2 W hW2 g1 g2 gI => item_bad h m w.heap.size W m.items[i] A2 c2 (hWm.grow hW2).blk hl3 g1 g2 gI))
      have HRu := hide fun (W0 : World) (hW0 : MW w w.heap.size W0 h m) => containsFunc_Rule 50 #[.pointer (some ⟨w.heap.size, 0, none⟩)] (fun _ _ => by kernel_rfl) (fun x => !ruleOk m x) h.u h.uc m.rules W0 hl6 (hW0.md D.out).dU (fun i hi A2 c2 W hW2 g1 g2 gI => rule_bad h m w.heap.size W m.rules[i] A2 c2 (hW0.grow hW2).blk ((hW0.grow hW2).md D.out) g1 g2 gI)
      have e1 : m.items.any (fun x => !itemOk m x) = false := by rw [any_not', HX.out.2.1]; rfl
      have e2 : m.rules.any (fun x => !ruleOk m x) = false := by rw [any_not', HX.out.2.2]; rfl
      rw [e1] at HIt
      rw [e2] at HRu
      obtain ⟨a0, a1, a2, a3, a4, a5, a6, a7, a8, a9, a10⟩ := MB.cells hWm.blk
      clear e1 e2
      go_wp2_with (first
        | (go_at_call 46; refine HIt.out.mono ?_; rintro e w3 ⟨rfl, hb3⟩; have hW3 := hWm.grow hb3; obtain ⟨c0, c1, c2, c3, c4, c5, c6, c7, c8, c9, c10⟩ := MB.cells hW3.blk; have hc := hW3.lt; clear hb3)
        | (go_at_call 49; refine (HRu.out _ hW3).mono ?_; rintro e w4 ⟨rfl, hb4⟩))
      go_ret
      exact ⟨rfl, (hW3.grow hb4).b⟩
end Go.Proofs.YtpggamapmgpjcaaGreatDoor
