/- A part of the claim: see its last text. -/
import Derived.Test.YtcfogipaadhbeaaGreatDoorUK31
import Derived.Test.YtcfogipaadhbeaaGreatDoorUK28
import Derived.Test.YtcfogipaadhbeaaGreatDoorUK32
import Derived.Deep.RegionLaw
import Derived.Deep.CutRange

set_option maxRecDepth 100000
set_option maxHeartbeats 16000000
namespace Go.Proofs.YtcfogipaadhbeaaGreatDoor
open Go Go.RowKit Go.Proofs
theorem mem_rack {m : Mod} {k : Nat} (hk : k < m.rT.length) : m.rT[k].name ∈ nameList m := by
 unfold nameList; simp; exact .inr (.inr (.inl ⟨_, List.getElem_mem hk, rfl⟩))
theorem rack_nums {m : Mod} (h : validM m = true) {k : Nat} (hk : k < m.rT.length) : ∃ q1 q2 : Nat, m.rT[k].site = (q1 : Int) + 1 ∧ m.rT[k].feed = (q2 : Int) + 1 ∧ q1 < m.sT.length ∧ q2 < m.fT.length := by
 obtain ⟨v1, _⟩ := valid_parts h
 simp only [siteB, Bool.and_eq_true] at v1
 have hr := soundB_iff.1 v1.1.1.2 k hk
 simp only [rackOk, exI, Bool.and_eq_true, decide_eq_true_eq] at hr
 exact ⟨(m.rT[k].site - 1).toNat, (m.rT[k].feed - 1).toNat, by omega, by omega, by omega, by omega⟩
theorem mach_num {m : Mod} (h : validM m = true) {k : Nat} (hk : k < m.mT.length) : ∃ q : Nat, m.mT[k].rack = (q : Int) + 1 ∧ q < m.rT.length := by
 obtain ⟨v1, _⟩ := valid_parts h
 simp only [siteB, Bool.and_eq_true, List.all_eq_true] at v1
 have hr := v1.1.2 _ (List.getElem_mem hk)
 simp only [machOk, exI, Bool.and_eq_true, decide_eq_true_eq] at hr
 exact ⟨(m.mT[k].rack - 1).toNat, by omega, by omega⟩
theorem link_nums {m : Mod} (h : validM m = true) {k : Nat} (hk : k < m.lT.length) : ∃ q1 q2 : Nat, m.lT[k].a = (q1 : Int) + 1 ∧ m.lT[k].b = (q2 : Int) + 1 ∧ q1 < m.sT.length ∧ q2 < m.sT.length := by
 obtain ⟨v1, _⟩ := valid_parts h
 simp only [siteB, Bool.and_eq_true] at v1
 have hr := soundB_iff.1 v1.2 k hk
 simp only [linkOk, Bool.and_eq_true, decide_eq_true_eq] at hr
 exact ⟨(m.lT[k].a - 1).toNat, (m.lT[k].b - 1).toNat, by omega, by omega, by omega, by omega⟩
theorem inc_all {nm : Int} {l : List Int} (h : incB nm l = true) : ∀ n ∈ l, 1 ≤ n ∧ n ≤ nm := by
 intro n hn
 obtain ⟨i, hi, rfl⟩ := List.getElem_of_mem hn
 unfold incB at h
 simp only [Bool.and_eq_true, decide_eq_true_eq] at h
 have := (h.2 i hi).1
 simpa [exI] using this
theorem on_all {m : Mod} (hv : validM m = true) {x : ItemM} (hx : x ∈ m.iT) : ∀ n ∈ x.on, 1 ≤ n ∧ n ≤ (m.mT.length : Int) := by
 have h := ok_item hv hx
 unfold itemOk at h
 simp only [Bool.and_eq_true] at h
 exact inc_all h.1.1.1.1
theorem dark_num {m : Mod} (h : validM m = true) : ∃ q : Nat, m.dT = (q : Int) + 1 ∧ q < m.sT.length := by
 unfold validM sizesB at h
 simp only [exI, Bool.and_eq_true, decide_eq_true_eq] at h
 exact ⟨(m.dT - 1).toNat, by omega, by omega⟩
theorem rule_fits {m : Mod} {x : RuleM} (h : ruleOk m x = true) : 0 ≤ x.kind ∧ x.kind ≤ 6 ∧ x.item ≤ (m.iT.length : Int) ∧ x.other ≤ (m.iT.length : Int) ∧ (∀ n ∈ x.machines, 1 ≤ n ∧ n ≤ (m.mT.length : Int)) := by
 unfold ruleOk at h
 have hno : noList x.machines = true → ∀ n ∈ x.machines, 1 ≤ n ∧ n ≤ (m.mT.length : Int) := fun e n hn => by
  unfold noList at e
  rw [List.eq_nil_of_length_eq_zero (of_decide_eq_true e)] at hn
  cases hn
 repeat' split at h
 all_goals (try (cases h; done))
 all_goals simp only [exI, wiI, Bool.and_eq_true, decide_eq_true_eq] at h
 all_goals first
  | exact ⟨by omega, by omega, by omega, by omega, hno (by simp only [h])⟩
  | exact ⟨by omega, by omega, by omega, by omega, inc_all (by simp only [h])⟩
theorem mem_mach {m : Mod} {k : Nat} (hk : k < m.mT.length) : m.mT[k].name ∈ nameList m := by
 unfold nameList; simp; exact .inr (.inr (.inr (.inl ⟨_, List.getElem_mem hk, rfl⟩)))
theorem mem_item {m : Mod} {k : Nat} (hk : k < m.iT.length) : m.iT[k].name ∈ nameList m := by
 unfold nameList; simp; exact .inr (.inr (.inr (.inr ⟨_, List.getElem_mem hk, rfl⟩)))
theorem itN_size {m : Mod} (h : ∀ s ∈ nameList m, s.size ≤ 16384) (n : Int) : (itN m n).size ≤ 16384 := by
 unfold itN
 cases e : m.iT[(n - 1).toNat]? with
 | none => simp; decide
 | some x =>
   obtain ⟨hk, rfl⟩ := List.getElem?_eq_some_iff.1 e
   exact h _ (mem_item hk)
theorem mchN_size {m : Mod} (h : ∀ s ∈ nameList m, s.size ≤ 16384) (n : Int) : (mchN m n).size ≤ 16384 := by
 unfold mchN
 cases e : m.mT[(n - 1).toNat]? with
 | none => simp; decide
 | some x =>
   obtain ⟨hk, rfl⟩ := List.getElem?_eq_some_iff.1 e
   exact h _ (mem_mach hk)
theorem decls19 (h : MH) (m : Mod) (w : World) (d : MD w w.heap.size h m) (k1 : m.rT.length ≤ h.rc) (k2 : m.mT.length ≤ h.mc) (k3 : m.lT.length ≤ h.lc) (ha : Asc w) (hv : validM m = true) :
    Calls Tryz.prog 16 #[.agg #[.slice h.s m.sT.length h.sc, .slice h.f m.fT.length h.fc, .slice h.r m.rT.length h.rc, .slice h.m m.mT.length h.mc, .slice h.l m.lT.length h.lc, .slice h.i m.iT.length h.ic, .int .i64 m.dT, .int .i64 m.oT, .int .i64 m.vT, .int .i64 m.aT, .slice h.u m.uT.length h.uc]] w fun e w' => ∃ v L, e = .returned v ∧ OutD w.heap.size w' v L ∧ L.map (·.1) = declsM m ∧ Below w.heap.size w w' := by
 have HM0 := hide (MW.start w h m)
 have HB0 := hide ((Below.refl w.heap.size w).alloc (Nat.le_refl _) (.cells #[.slice h.s m.sT.length h.sc, .slice h.f m.fT.length h.fc, .slice h.r m.rT.length h.rc, .slice h.m m.mT.length h.mc, .slice h.l m.lT.length h.lc, .slice h.i m.iT.length h.ic, .int .i64 m.dT, .int .i64 m.oT, .int .i64 m.vT, .int .i64 m.aT, .slice h.u m.uT.length h.uc] 32))
 have HV := hide (validM_prog h m _ (d.grow HB0.out) k1 k2 k3 (ha.below (Nat.le_refl _) HB0.out) hv)
 have HNS : Hid (∀ s ∈ nameList m, s.size ≤ 16384) := hide (fun s hs => Nat.le_trans (names_small (by unfold validM at hv; simp only [Bool.and_eq_true] at hv; exact hv.1.1.1.2) s hs) (by decide))
 have HLN := hide (show m.sT.length ≤ 4 ∧ m.fT.length ≤ 16 ∧ m.rT.length ≤ 16 ∧ m.mT.length ≤ 16 ∧ m.lT.length ≤ 12 ∧ m.iT.length ≤ 8 ∧ m.uT.length ≤ 40 by
  obtain ⟨v1, v2, v3, _⟩ := valid_parts hv
  simp only [siteB, exI, Bool.and_eq_true, decide_eq_true_eq] at v1
  omega)
 have D := hide d
 have HVM := hide hv
 clear d k1 k2 k3 ha hv
 obtain ⟨sA, sC, fA, fC, rA, rC, mA, mC, lA, lC, iA, iC, uA, uC⟩ := h
 dsimp only at HM0 HB0 HV ⊢
 go_enter Tryz.func16, Tryz.ntmps16
 go_upto_region 5 with (first
  | (go_at_call 28; refine HV.out.mono ?_; rintro e w1 ⟨rfl, hb1⟩; have HM1 := hide (HM0.out.grow hb1); obtain ⟨a0, a1, a2, a3, a4, a5, a6, a7, a8, a9, a10⟩ := MB.cells (HM0.out.grow hb1).blk; have l1 := (HM0.out.grow hb1).lt; clear hb1))
 have hd0 : DS w (w1.alloc (.cells #[.slice none 0 0] 22)) ⟨sA, sC, fA, fC, rA, rC, mA, mC, lA, lC, iA, iC, uA, uC⟩ m w1.heap.size ([] ++ (m.sT.take 0).map siteD) :=
  ⟨HM1.out.grow ((Below.refl _ _).alloc (Nat.le_refl _) _), l1, .slice none 0 0, [], Blk.new _ _ _, OutD.nil_ _ _, rfl⟩
 obtain ⟨bo, hbo⟩ : ∃ bo, bo = w1.heap.size := ⟨_, rfl⟩
 obtain ⟨w2, hw2⟩ : ∃ w2, w2 = w1.alloc (.cells #[.slice none 0 0] 22) := ⟨_, rfl⟩
 rw [← hbo, ← hw2] at hd0
 rw [← hbo, ← hw2]
 have HD := hide hd0
 clear HM1 hbo hw2 hd0 a0 a1 a2 a3 a4 a5 a6 a7 a8 a9 a10 l1 HV HB0 HM0
 obtain ⟨a0, a1, a2, a3, a4, a5, a6, a7, a8, a9, a10⟩ := MB.cells HD.out.mw.blk
 dsimp only at a0
 clear a1 a2 a3 a4 a5 a6 a7 a8 a9 a10
 have HL1 := hide (show ([] : List Decl).length ≤ 100 by simp)
 have ml := D.out.sl
 obtain ⟨pre, hpre⟩ : ∃ pre : List Decl, pre = [] := ⟨_, rfl⟩
 rw [← hpre] at HD HL1
 have HP := hide hpre
 clear hpre
 go_upto_region 6 with (fail)
 go_loopw [6, 27] (fun s i wr => ∃ k : Nat, k ≤ m.sT.length ∧ i = .int .i64 k ∧ Hid (DS w wr ⟨sA, sC, fA, fC, rA, rC, mA, mC, lA, lC, iA, iC, uA, uC⟩ m bo (pre ++ (m.sT.take k).map siteD))) (fun _ i _ => m.sT.length - (intOf i).toNat)
 case atStart => exact ⟨0, Nat.zero_le _, rfl, HD⟩
 case round =>
  clear HD
  obtain ⟨k, hk, rfl, hN⟩ := hrel
  by_cases hlt : k < m.sT.length
  · have hat : ∃ b off, sA = some ⟨b, off, none⟩ ∧ b < wr.heap.size ∧ wr.cell? ⟨b, off + k, none⟩ = some (.string m.sT[k]) := str_at (hN.out.mw.md D.out).dS hlt
    obtain ⟨b, off, hA, hb, x0⟩ := hat
    have HA := hide (hN.out.add 0 m.sT[k] none none 0 0 [] [] (OwnS.nil_ _ _) (OwnI.nil_ _ _) ⟨HNS.out _ (by unfold nameList; simp [List.getElem_mem]), by simp⟩ (by have := HL1.out; have := HLN.out.1; simp; omega))
    have E := hide (dec_succ pre siteD m.sT hlt)
    have hkI : (k : Int) < (m.sT.length : Int) := by omega
    subst hA
    go_wp2_with (go_at_call 36; refine HA.out.mono ?_; rintro e w3 ⟨rfl, hd3, hbu⟩; have HD3 := hide hd3; clear hd3 hbu)
    go_roundw
    case rel => exact ⟨k + 1, by omega, by go_num, by rw [← E.out]; exact HD3⟩
    case measure => simp [intOf]; omega
  · obtain rfl : k = m.sT.length := by omega
    rw [List.take_length] at hN
    have HN := hN
    clear hN hlt hk
    obtain ⟨a0, a1, a2, a3, a4, a5, a6, a7, a8, a9, a10⟩ := MB.cells HN.out.mw.blk
    dsimp only at a1
    clear a0 a2 a3 a4 a5 a6 a7 a8 a9 a10
    have ml := D.out.fl
    have HL2 := hide (show (pre ++ m.sT.map siteD).length ≤ 200 by have := HL1.out; have := HLN.out.1; simp; omega)
    obtain ⟨pre2, hpre⟩ : ∃ pre2 : List Decl, pre2 = pre ++ m.sT.map siteD := ⟨_, rfl⟩
    rw [← hpre] at HN HL2
    have HP2 := hide hpre
    have HN2 : Hid (DS w wr ⟨sA, sC, fA, fC, rA, rC, mA, mC, lA, lC, iA, iC, uA, uC⟩ m bo (pre2 ++ (m.fT.take 0).map feedD)) := hide (by simpa using HN.out)
    clear hpre HN
    go_upto_region 11 with (fail)
    go_loopw [8, 38] (fun s i wr => ∃ k : Nat, k ≤ m.fT.length ∧ i = .int .i64 k ∧ Hid (DS w wr ⟨sA, sC, fA, fC, rA, rC, mA, mC, lA, lC, iA, iC, uA, uC⟩ m bo (pre2 ++ (m.fT.take k).map feedD))) (fun _ i _ => m.fT.length - (intOf i).toNat)
    case atStart => exact ⟨0, Nat.zero_le _, rfl, HN2⟩
    case round =>
     clear HN2
     obtain ⟨k, hk, rfl, hN⟩ := hrel
     by_cases hlt : k < m.fT.length
     · have hat : ∃ b off, fA = some ⟨b, off, none⟩ ∧ b < wr.heap.size ∧ wr.cell? ⟨b, off + k, none⟩ = some (.string m.fT[k]) := str_at (hN.out.mw.md D.out).dF hlt
       obtain ⟨b, off, hA, hb, x0⟩ := hat
       have HA := hide (hN.out.add 1 m.fT[k] none none 0 0 [] [] (OwnS.nil_ _ _) (OwnI.nil_ _ _) ⟨HNS.out _ (by unfold nameList; simp [List.getElem_mem]), by simp⟩ (by have := HL2.out; have := HLN.out.2.1; simp; omega))
       have E := hide (dec_succ pre2 feedD m.fT hlt)
       have hkI : (k : Int) < (m.fT.length : Int) := by omega
       subst hA
       go_wp2_with (go_at_call 36; refine HA.out.mono ?_; rintro e w3 ⟨rfl, hd3, hbu⟩; have HD3 := hide hd3; clear hd3 hbu)
       go_roundw
       case rel => exact ⟨k + 1, by omega, by go_num, by rw [← E.out]; exact HD3⟩
       case measure => simp [intOf]; omega
     · obtain rfl : k = m.fT.length := by omega
       rw [List.take_length] at hN
       have HN := hN
       clear hN hlt hk
       obtain ⟨a0, a1, a2, a3, a4, a5, a6, a7, a8, a9, a10⟩ := MB.cells HN.out.mw.blk
       dsimp only at a2
       clear a0 a1 a3 a4 a5 a6 a7 a8 a9 a10
       have ml := D.out.rl
       have HL3 := hide (show (pre2 ++ m.fT.map feedD).length ≤ 300 by have := HL2.out; have := HLN.out.2.1; simp; omega)
       obtain ⟨pre3, hpre⟩ : ∃ pre3 : List Decl, pre3 = pre2 ++ m.fT.map feedD := ⟨_, rfl⟩
       rw [← hpre] at HN HL3
       have HP3 := hide hpre
       have HN2 : Hid (DS w wr ⟨sA, sC, fA, fC, rA, rC, mA, mC, lA, lC, iA, iC, uA, uC⟩ m bo (pre3 ++ (m.rT.take 0).map (rackD m))) := hide (by simpa using HN.out)
       clear hpre HN
       go_upto_region 16 with (fail)
       go_loopw [10, 49] (fun s i wr => ∃ k : Nat, k ≤ m.rT.length ∧ i = .int .i64 k ∧ Hid (DS w wr ⟨sA, sC, fA, fC, rA, rC, mA, mC, lA, lC, iA, iC, uA, uC⟩ m bo (pre3 ++ (m.rT.take k).map (rackD m)))) (fun _ i _ => m.rT.length - (intOf i).toNat)
       case atStart => exact ⟨0, Nat.zero_le _, rfl, HN2⟩
       case round =>
        clear HN2 a2
        obtain ⟨k, hk, rfl, hN⟩ := hrel
        obtain ⟨a0, a1, a2, a3, a4, a5, a6, a7, a8, a9, a10⟩ := MB.cells hN.out.mw.blk
        dsimp only at a0 a1
        clear a2 a3 a4 a5 a6 a7 a8 a9 a10
        have l1 := hN.out.mw.lt
        by_cases hlt : k < m.rT.length
        · have hat : ∃ b off, rA = some ⟨b, off, none⟩ ∧ b < wr.heap.size ∧ wr.cell? ⟨b, off + k * 3, none⟩ = some (.string m.rT[k].name) ∧ wr.cell? ⟨b, off + k * 3 + 1, none⟩ = some (.int .i64 m.rT[k].site) ∧ wr.cell? ⟨b, off + k * 3 + 2, none⟩ = some (.int .i64 m.rT[k].feed) ∧ m.rT[k].name.size ≤ 9223372036854775807 := (hN.out.mw.md D.out).dR.rack hlt
          obtain ⟨b, off, hA, hb, x0, x1, x2, hZ0⟩ := hat
          obtain ⟨q1, q2, e1, e2, h1, h2⟩ := rack_nums HVM.out hlt
          have hat1 : ∃ b off, sA = some ⟨b, off, none⟩ ∧ b < w.heap.size ∧ w.cell? ⟨b, off + q1, none⟩ = some (.string m.sT[q1]) := str_at D.out.dS h1
          have hat2 : ∃ b off, fA = some ⟨b, off, none⟩ ∧ b < w.heap.size ∧ w.cell? ⟨b, off + q2, none⟩ = some (.string m.fT[q2]) := str_at D.out.dF h2
          obtain ⟨b1, off1, hA1, hb1, y1⟩ := hat1
          obtain ⟨b2, off2, hA2, hb2, y2⟩ := hat2
          have z0 := HNS.out _ (mem_rack hlt)
          have z1 : (m.sT[q1]).size ≤ 16384 := HNS.out _ (by unfold nameList; simp)
          have z2 : (m.fT[q2]).size ≤ 16384 := HNS.out _ (by unfold nameList; simp)
          have hE := dec_succ pre3 (rackD m) m.rT hlt
          rw [show rackD m m.rT[k] = ⟨2, m.rT[k].name, [m.sT[q1], m.fT[q2]], [], 0, false⟩ by unfold rackD; rw [e1, e2, siteN_is m h1, feedN_is m h2]] at hE
          rw [e1] at x1
          rw [e2] at x2
          obtain ⟨nm, hnm⟩ : ∃ nm, nm = m.rT[k].name := ⟨_, rfl⟩
          obtain ⟨s1, hs1⟩ : ∃ s1, s1 = m.sT[q1] := ⟨_, rfl⟩
          obtain ⟨s2, hs2⟩ : ∃ s2, s2 = m.fT[q2] := ⟨_, rfl⟩
          rw [← hnm] at x0 z0 hE
          rw [← hs1] at y1 z1 hE
          rw [← hs2] at y2 z2 hE
          have E := hide hE
          subst hA hA1 hA2
          have hsb := hide (show DS w ((wr.alloc (.cells #[.string nm, .int .i64 ((q1 : Int) + 1), .int .i64 ((q2 : Int) + 1)] 69))) ⟨some ⟨b1, off1, none⟩, sC, some ⟨b2, off2, none⟩, fC, some ⟨b, off, none⟩, rC, mA, mC, lA, lC, iA, iC, uA, uC⟩ m bo (pre3 ++ (m.rT.take k).map (rackD m)) from hN.out.grow ((Below.refl _ _).alloc (Nat.le_refl _) _))
          have hbx := hide (show Blk ((wr.alloc (.cells #[.string nm, .int .i64 ((q1 : Int) + 1), .int .i64 ((q2 : Int) + 1)] 69))) wr.heap.size 69 #[.string nm, .int .i64 ((q1 : Int) + 1), .int .i64 ((q2 : Int) + 1)] from Blk.new wr _ _)
          have hAd := (hsb.out).addN 2 nm [s1, s2] (by simp) ⟨z0, by intro r hr; simp at hr; rcases hr with rfl | rfl <;> assumption⟩ (by have := HL3.out; have := HLN.out.2.2.1; simp; omega)
          rw [show ((wr.alloc (.cells #[.string nm, .int .i64 ((q1 : Int) + 1), .int .i64 ((q2 : Int) + 1)] 69))).heap.size = wr.heap.size + 1 by simp] at hAd
          have HA := hide (show Calls Tryz.prog 36 #[.int .i64 2, .string nm, .slice (some ⟨wr.heap.size + 1, 0, none⟩) 2 2, .slice none 0 0, .pointer (some ⟨bo, 0, none⟩)] (((wr.alloc (.cells #[.string nm, .int .i64 ((q1 : Int) + 1), .int .i64 ((q2 : Int) + 1)] 69))).alloc (.cells #[.string s1, .string s2] 9)).drew (AddQ w (((wr.alloc (.cells #[.string nm, .int .i64 ((q1 : Int) + 1), .int .i64 ((q2 : Int) + 1)] 69))).alloc (.cells #[.string s1, .string s2] 9)).drew ⟨some ⟨b1, off1, none⟩, sC, some ⟨b2, off2, none⟩, fC, some ⟨b, off, none⟩, rC, mA, mC, lA, lC, iA, iC, uA, uC⟩ m bo ((pre3 ++ (m.rT.take k).map (rackD m)) ++ [⟨2, nm, [s1, s2], [], 0, false⟩])) from hAd)
          have HNB := hide (show wr.heap.size ≠ bo by have := hN.out.size; omega)
          have HKC := hide (fun (W : World) (ds : List Decl) (d : DS w W ⟨some ⟨b1, off1, none⟩, sC, some ⟨b2, off2, none⟩, fC, some ⟨b, off, none⟩, rC, mA, mC, lA, lC, iA, iC, uA, uC⟩ m bo ds) (b : Blk W wr.heap.size 69 #[.string nm, .int .i64 ((q1 : Int) + 1), .int .i64 ((q2 : Int) + 1)]) => (show W.cell? ⟨wr.heap.size, 0, none⟩ = some (.string nm) ∧ W.cell? ⟨wr.heap.size, 1, none⟩ = some (.int .i64 ((q1 : Int) + 1)) ∧ W.cell? ⟨wr.heap.size, 2, none⟩ = some (.int .i64 ((q2 : Int) + 1)) ∧ W.cell? ⟨w.heap.size, 0, none⟩ = some (.slice (some ⟨b1, off1, none⟩) m.sT.length sC) ∧ W.cell? ⟨w.heap.size, 1, none⟩ = some (.slice (some ⟨b2, off2, none⟩) m.fT.length fC) ∧ W.cell? ⟨b1, off1 + q1, none⟩ = some (.string s1) ∧ W.cell? ⟨b2, off2 + q2, none⟩ = some (.string s2) from
           ⟨b.cell 0, b.cell 1, b.cell 2, d.mw.blk.cell 0, d.mw.blk.cell 1, (d.mw.b.cell (p := ⟨b1, off1 + q1, none⟩) hb1).trans y1, (d.mw.b.cell (p := ⟨b2, off2 + q2, none⟩) hb2).trans y2⟩))
          have HKG := hide (fun W (hb : Below ((wr.alloc (.cells #[.string nm, .int .i64 ((q1 : Int) + 1), .int .i64 ((q2 : Int) + 1)] 69))).heap.size ((wr.alloc (.cells #[.string nm, .int .i64 ((q1 : Int) + 1), .int .i64 ((q2 : Int) + 1)] 69))) W) => And.intro (hsb.out.grow hb) (hbx.out.below hb (by simp)))
          have hkI : (k : Int) < (m.rT.length : Int) := by omega
          have h1I : (q1 : Int) < (m.sT.length : Int) := by omega
          have h2I : (q2 : Int) < (m.fT.length : Int) := by omega
          have hw1 : IntKind.i64.wrap (q1 : Int) = q1 := IntWalk.i64_in _ (by have := HLN.out.1; omega)
          have hw2 : IntKind.i64.wrap (q2 : Int) = q2 := IntWalk.i64_in _ (by have := HLN.out.2.1; omega)
          have HLT := hide hlt
          clear e1 e2 hN y1 y2 hAd z0 z1 z2 hE hnm hs1 hs2 hZ0 hlt
          go_upto_region 18 with (fail)
          go_region_held3 (fun W => W.cell? ⟨wr.heap.size, 0, none⟩ = some (.string nm) ∧ W.cell? ⟨wr.heap.size, 1, none⟩ = some (.int .i64 ((q1 : Int) + 1)) ∧ W.cell? ⟨wr.heap.size, 2, none⟩ = some (.int .i64 ((q2 : Int) + 1)) ∧ W.cell? ⟨w.heap.size, 0, none⟩ = some (.slice (some ⟨b1, off1, none⟩) m.sT.length sC) ∧ W.cell? ⟨w.heap.size, 1, none⟩ = some (.slice (some ⟨b2, off2, none⟩) m.fT.length fC) ∧ W.cell? ⟨b1, off1 + q1, none⟩ = some (.string s1) ∧ W.cell? ⟨b2, off2 + q2, none⟩ = some (.string s2))
           ((with_reducible (first | exact HKC.out _ _ hsb.out.drew hbx.out.drew | exact HKC.out _ _ (HKG.out _ ((Below.refl _ _).alloc (Nat.le_refl _) _).drew).1 (HKG.out _ ((Below.refl _ _).alloc (Nat.le_refl _) _).drew).2 | exact HKC.out _ _ HD3.out c7)))
           ((go_at_call 36; (with_reducible refine HA.out.mono ?_); rintro e w3 ⟨rfl, hd3, hbu, hkx⟩; have HD3 := hide hd3; have c7 := hkx _ _ _ (by decide) HNB.out (HKG.out _ ((Below.refl _ _).alloc (Nat.le_refl _) _).drew).2; clear hd3 hbu hkx))
          all_goals
           go_wp2_with fail
           go_roundw
           case rel => exact ⟨k + 1, by have := HLT.out; omega, by have := HLT.out; go_num, by rw [← E.out]; exact HD3⟩
           case measure => have := HLT.out; simp [intOf]; omega
        · skip
          obtain rfl : k = m.rT.length := by omega
          rw [List.take_length] at hN
          have HN := hN
          clear hN hlt hk a0 a1 l1
          have HL4 := hide (show (pre3 ++ m.rT.map (rackD m)).length ≤ 400 by have := HL3.out; have := HLN.out; simp; omega)
          obtain ⟨pre4, hpre⟩ : ∃ pre4 : List Decl, pre4 = pre3 ++ m.rT.map (rackD m) := ⟨_, rfl⟩
          rw [← hpre] at HN HL4
          have HP4 := hide hpre
          clear hpre
          obtain ⟨a0, a1, a2, a3, a4, a5, a6, a7, a8, a9, a10⟩ := MB.cells HN.out.mw.blk
          dsimp only at a3
          clear a0 a1 a2 a4 a5 a6 a7 a8 a9 a10
          have ml := D.out.ml
          have HN2 : Hid (DS w wr ⟨sA, sC, fA, fC, rA, rC, mA, mC, lA, lC, iA, iC, uA, uC⟩ m bo (pre4 ++ (m.mT.take 0).map (machD m))) := hide (by simpa using HN.out)
          clear HN
          go_upto_region 21 with (fail)
          go_loopw [12, 76] (fun s0 i wr => ∃ k : Nat, k ≤ m.mT.length ∧ i = .int .i64 k ∧ Hid (DS w wr ⟨sA, sC, fA, fC, rA, rC, mA, mC, lA, lC, iA, iC, uA, uC⟩ m bo (pre4 ++ (m.mT.take k).map (machD m)))) (fun _ i _ => m.mT.length - (intOf i).toNat)
          case atStart => exact ⟨0, Nat.zero_le _, rfl, HN2⟩
          case round =>
           clear HN2 a3
           obtain ⟨k, hk, rfl, hN⟩ := hrel
           obtain ⟨a0, a1, a2, a3, a4, a5, a6, a7, a8, a9, a10⟩ := MB.cells hN.out.mw.blk
           dsimp only at a2
           clear a0 a1 a3 a4 a5 a6 a7 a8 a9 a10
           have l1 := hN.out.mw.lt
           by_cases hlt : k < m.mT.length
           · skip
             have hat : ∃ b off, mA = some ⟨b, off, none⟩ ∧ b < wr.heap.size ∧ wr.cell? ⟨b, off + k * 3, none⟩ = some (.string m.mT[k].name) ∧ wr.cell? ⟨b, off + k * 3 + 1, none⟩ = some (.int .i64 m.mT[k].rack) ∧ wr.cell? ⟨b, off + k * 3 + 2, none⟩ = some (.int .i64 m.mT[k].cap) ∧ m.mT[k].name.size ≤ 9223372036854775807 := (hN.out.mw.md D.out).dM.mach hlt
             obtain ⟨b, off, hA, hb, x0, x1, x2, hZ0⟩ := hat
             obtain ⟨q, e1, h1⟩ := mach_num HVM.out hlt
             have hat1 : ∃ b off, rA = some ⟨b, off, none⟩ ∧ b < w.heap.size ∧ w.cell? ⟨b, off + q * 3, none⟩ = some (.string m.rT[q].name) ∧ w.cell? ⟨b, off + q * 3 + 1, none⟩ = some (.int .i64 m.rT[q].site) ∧ w.cell? ⟨b, off + q * 3 + 2, none⟩ = some (.int .i64 m.rT[q].feed) ∧ m.rT[q].name.size ≤ 9223372036854775807 := D.out.dR.rack h1
             obtain ⟨b1, off1, hA1, hb1, y1, y2, y3, y4⟩ := hat1
             have z0 := HNS.out _ (mem_mach hlt)
             have z1 := HNS.out _ (mem_rack h1)
             have hE := dec_succ pre4 (machD m) m.mT hlt
             rw [show machD m m.mT[k] = ⟨3, m.mT[k].name, [m.rT[q].name], [m.mT[k].cap], 0, false⟩ by unfold machD; rw [e1, rackN_is m h1]] at hE
             rw [e1] at x1
             obtain ⟨nm, hnm⟩ : ∃ nm, nm = m.mT[k].name := ⟨_, rfl⟩
             obtain ⟨cp, hcp⟩ : ∃ cp, cp = m.mT[k].cap := ⟨_, rfl⟩
             obtain ⟨s1, hs1⟩ : ∃ s1, s1 = m.rT[q].name := ⟨_, rfl⟩
             rw [← hnm] at x0 z0 hE
             rw [← hcp] at x2 hE
             rw [← hs1] at y1 z1 hE
             have E := hide hE
             subst hA hA1
             have hsb := hide (show DS w (wr.alloc (.cells #[.string nm, .int .i64 ((q : Int) + 1), .int .i64 cp] 71)) ⟨sA, sC, fA, fC, some ⟨b1, off1, none⟩, rC, some ⟨b, off, none⟩, mC, lA, lC, iA, iC, uA, uC⟩ m bo (pre4 ++ (m.mT.take k).map (machD m)) from hN.out.grow ((Below.refl _ _).alloc (Nat.le_refl _) _))
             have hbx := hide (show Blk (wr.alloc (.cells #[.string nm, .int .i64 ((q : Int) + 1), .int .i64 cp] 71)) wr.heap.size 71 #[.string nm, .int .i64 ((q : Int) + 1), .int .i64 cp] from Blk.new wr _ _)
             have hAd := (hsb.out).addNM 3 nm [s1] [cp] (by simp) ⟨z0, by intro r hr; simp at hr; subst hr; exact z1⟩ (by have := HL4.out; have := HLN.out; simp; omega)
             have hAe := (hsb.out).addMN 3 nm [s1] [cp] (by simp) ⟨z0, by intro r hr; simp at hr; subst hr; exact z1⟩ (by have := HL4.out; have := HLN.out; simp; omega)
             rw [show (wr.alloc (.cells #[.string nm, .int .i64 ((q : Int) + 1), .int .i64 cp] 71)).heap.size = wr.heap.size + 1 by simp] at hAd hAe
             have HA1 := hide (show Calls Tryz.prog 36 #[.int .i64 3, .string nm, .slice (some ⟨wr.heap.size + 1, 0, none⟩) 1 1, .slice (some ⟨wr.heap.size + 1 + 1, 0, none⟩) 1 1, .pointer (some ⟨bo, 0, none⟩)] ((((wr.alloc (.cells #[.string nm, .int .i64 ((q : Int) + 1), .int .i64 cp] 71)).alloc (.cells #[.string s1] 9)).alloc (.cells #[.int .i64 cp] 3)).drew) (AddQ w ((((wr.alloc (.cells #[.string nm, .int .i64 ((q : Int) + 1), .int .i64 cp] 71)).alloc (.cells #[.string s1] 9)).alloc (.cells #[.int .i64 cp] 3)).drew) ⟨sA, sC, fA, fC, some ⟨b1, off1, none⟩, rC, some ⟨b, off, none⟩, mC, lA, lC, iA, iC, uA, uC⟩ m bo ((pre4 ++ (m.mT.take k).map (machD m)) ++ [⟨3, nm, [s1], [cp], 0, false⟩])) from hAd)
             have HA2 := hide (show Calls Tryz.prog 36 #[.int .i64 3, .string nm, .slice (some ⟨wr.heap.size + 1 + 1, 0, none⟩) 1 1, .slice (some ⟨wr.heap.size + 1, 0, none⟩) 1 1, .pointer (some ⟨bo, 0, none⟩)] ((((wr.alloc (.cells #[.string nm, .int .i64 ((q : Int) + 1), .int .i64 cp] 71)).alloc (.cells #[.int .i64 cp] 3)).alloc (.cells #[.string s1] 9)).drew) (AddQ w ((((wr.alloc (.cells #[.string nm, .int .i64 ((q : Int) + 1), .int .i64 cp] 71)).alloc (.cells #[.int .i64 cp] 3)).alloc (.cells #[.string s1] 9)).drew) ⟨sA, sC, fA, fC, some ⟨b1, off1, none⟩, rC, some ⟨b, off, none⟩, mC, lA, lC, iA, iC, uA, uC⟩ m bo ((pre4 ++ (m.mT.take k).map (machD m)) ++ [⟨3, nm, [s1], [cp], 0, false⟩])) from hAe)
             have HNB := hide (show wr.heap.size ≠ bo by have := hN.out.size; omega)
             have HKC := hide (fun (W : World) (ds : List Decl) (d : DS w W ⟨sA, sC, fA, fC, some ⟨b1, off1, none⟩, rC, some ⟨b, off, none⟩, mC, lA, lC, iA, iC, uA, uC⟩ m bo ds) (b : Blk W wr.heap.size 71 #[.string nm, .int .i64 ((q : Int) + 1), .int .i64 cp]) => (show W.cell? ⟨wr.heap.size, 0, none⟩ = some (.string nm) ∧ W.cell? ⟨wr.heap.size, 1, none⟩ = some (.int .i64 ((q : Int) + 1)) ∧ W.cell? ⟨wr.heap.size, 2, none⟩ = some (.int .i64 cp) ∧ W.cell? ⟨w.heap.size, 2, none⟩ = some (.slice (some ⟨b1, off1, none⟩) m.rT.length rC) ∧ W.cell? ⟨b1, off1 + q * 3, none⟩ = some (.string s1) from
              ⟨b.cell 0, b.cell 1, b.cell 2, d.mw.blk.cell 2, (d.mw.b.cell (p := ⟨b1, off1 + q * 3, none⟩) hb1).trans y1⟩))
             have HKG := hide (fun W (hb : Below (wr.alloc (.cells #[.string nm, .int .i64 ((q : Int) + 1), .int .i64 cp] 71)).heap.size (wr.alloc (.cells #[.string nm, .int .i64 ((q : Int) + 1), .int .i64 cp] 71)) W) => And.intro (hsb.out.grow hb) (hbx.out.below hb (by simp)))
             have hkI : (k : Int) < (m.mT.length : Int) := by omega
             have h1I : (q : Int) < (m.rT.length : Int) := by omega
             have hw1 : IntKind.i64.wrap (q : Int) = q := IntWalk.i64_in _ (by have := HLN.out; omega)
             have HLT := hide hlt
             clear e1 hN y1 y2 y3 y4 hAd hAe z0 z1 hE hnm hs1 hcp hZ0 hlt
             go_upto_region 23 with (fail)
             go_region_held3 (fun W => W.cell? ⟨wr.heap.size, 0, none⟩ = some (.string nm) ∧ W.cell? ⟨wr.heap.size, 1, none⟩ = some (.int .i64 ((q : Int) + 1)) ∧ W.cell? ⟨wr.heap.size, 2, none⟩ = some (.int .i64 cp) ∧ W.cell? ⟨w.heap.size, 2, none⟩ = some (.slice (some ⟨b1, off1, none⟩) m.rT.length rC) ∧ W.cell? ⟨b1, off1 + q * 3, none⟩ = some (.string s1))
              ((with_reducible (first | exact HKC.out _ _ hsb.out.drew hbx.out.drew | exact HKC.out _ _ (HKG.out _ (below_1 _ _)).1 (HKG.out _ (below_1 _ _)).2 | exact HKC.out _ _ (HKG.out _ (below_2 _ _ _)).1 (HKG.out _ (below_2 _ _ _)).2 | exact HKC.out _ _ HD3.out c7)))
              ((first | (go_at_call 36; (with_reducible refine HA1.out.mono ?_); rintro e w3 ⟨rfl, hd3, hbu, hkx⟩; have HD3 := hide hd3; have c7 := hkx _ _ _ (by decide) HNB.out (HKG.out _ (below_2 _ _ _)).2; clear hd3 hbu hkx) | (go_at_call 36; (with_reducible refine HA2.out.mono ?_); rintro e w3 ⟨rfl, hd3, hbu, hkx⟩; have HD3 := hide hd3; have c7 := hkx _ _ _ (by decide) HNB.out (HKG.out _ (below_2 _ _ _)).2; clear hd3 hbu hkx)))
             all_goals
              go_wp2_with fail
              go_roundw
              case rel => exact ⟨k + 1, by have := HLT.out; omega, by have := HLT.out; go_num, by rw [← E.out]; exact HD3⟩
              case measure => have := HLT.out; simp [intOf]; omega
           · skip
             obtain rfl : k = m.mT.length := by omega
             rw [List.take_length] at hN
             have HN := hN
             clear hN hlt hk a2 l1
             have HL5 := hide (show (pre4 ++ m.mT.map (machD m)).length ≤ 500 by have := HL4.out; have := HLN.out; simp; omega)
             obtain ⟨pre5, hpre⟩ : ∃ pre5 : List Decl, pre5 = pre4 ++ m.mT.map (machD m) := ⟨_, rfl⟩
             rw [← hpre] at HN HL5
             have HP5 := hide hpre
             clear hpre
             obtain ⟨a0, a1, a2, a3, a4, a5, a6, a7, a8, a9, a10⟩ := MB.cells HN.out.mw.blk
             dsimp only at a4
             clear a0 a1 a2 a3 a5 a6 a7 a8 a9 a10
             have ml := D.out.ll
             have HN2 : Hid (DS w wr ⟨sA, sC, fA, fC, rA, rC, mA, mC, lA, lC, iA, iC, uA, uC⟩ m bo (pre5 ++ (m.lT.take 0).map (linkD m))) := hide (by simpa using HN.out)
             clear HN
             go_upto_region 26 with (fail)
             go_loopw [14, 100] (fun s0 i wr => ∃ k : Nat, k ≤ m.lT.length ∧ i = .int .i64 k ∧ Hid (DS w wr ⟨sA, sC, fA, fC, rA, rC, mA, mC, lA, lC, iA, iC, uA, uC⟩ m bo (pre5 ++ (m.lT.take k).map (linkD m)))) (fun _ i _ => m.lT.length - (intOf i).toNat)
             case atStart => exact ⟨0, Nat.zero_le _, rfl, HN2⟩
             case round =>
              clear HN2 a4
              obtain ⟨k, hk, rfl, hN⟩ := hrel
              obtain ⟨a0, a1, a2, a3, a4, a5, a6, a7, a8, a9, a10⟩ := MB.cells hN.out.mw.blk
              dsimp only at a0
              clear a1 a2 a3 a4 a5 a6 a7 a8 a9 a10
              have l1 := hN.out.mw.lt
              by_cases hlt : k < m.lT.length
              · skip
                have hat : ∃ b off, lA = some ⟨b, off, none⟩ ∧ b < wr.heap.size ∧ wr.cell? ⟨b, off + k * 3, none⟩ = some (.int .i64 m.lT[k].a) ∧ wr.cell? ⟨b, off + k * 3 + 1, none⟩ = some (.int .i64 m.lT[k].b) ∧ wr.cell? ⟨b, off + k * 3 + 2, none⟩ = some (.int .i64 m.lT[k].cap) := (hN.out.mw.md D.out).dL.link hlt
                obtain ⟨b, off, hA, hb, x0, x1, x2⟩ := hat
                obtain ⟨q1, q2, e1, e2, h1, h2⟩ := link_nums HVM.out hlt
                have hat1 : ∃ b off, sA = some ⟨b, off, none⟩ ∧ b < w.heap.size ∧ w.cell? ⟨b, off + q1, none⟩ = some (.string m.sT[q1]) := str_at D.out.dS h1
                have hat2 : ∃ b off, sA = some ⟨b, off, none⟩ ∧ b < w.heap.size ∧ w.cell? ⟨b, off + q2, none⟩ = some (.string m.sT[q2]) := str_at D.out.dS h2
                obtain ⟨b1, off1, hA1, hb1, y1⟩ := hat1
                obtain ⟨b2, off2, hA2, hb2, y2⟩ := hat2
                rw [hA1] at hA2
                obtain ⟨rfl, rfl⟩ : b1 = b2 ∧ off1 = off2 := by simpa using hA2
                have z0 : (⟨#[]⟩ : ByteArray).size ≤ 16384 := by decide
                have z1 : (m.sT[q1]).size ≤ 16384 := HNS.out _ (by unfold nameList; simp)
                have z2 : (m.sT[q2]).size ≤ 16384 := HNS.out _ (by unfold nameList; simp)
                have hE := dec_succ pre5 (linkD m) m.lT hlt
                rw [show linkD m m.lT[k] = ⟨4, ⟨#[]⟩, [m.sT[q1], m.sT[q2]], [m.lT[k].cap], 0, false⟩ by unfold linkD; rw [e1, e2, siteN_is m h1, siteN_is m h2]] at hE
                rw [e1] at x0
                rw [e2] at x1
                obtain ⟨cp, hcp⟩ : ∃ cp, cp = m.lT[k].cap := ⟨_, rfl⟩
                obtain ⟨s1, hs1⟩ : ∃ s1, s1 = m.sT[q1] := ⟨_, rfl⟩
                obtain ⟨s2, hs2⟩ : ∃ s2, s2 = m.sT[q2] := ⟨_, rfl⟩
                rw [← hcp] at x2 hE
                rw [← hs1] at y1 z1 hE
                rw [← hs2] at y2 z2 hE
                have E := hide hE
                subst hA hA1
                have hsb := hide (show DS w (wr.alloc (.cells #[.int .i64 ((q1 : Int) + 1), .int .i64 ((q2 : Int) + 1), .int .i64 cp] 73)) ⟨some ⟨b1, off1, none⟩, sC, fA, fC, rA, rC, mA, mC, some ⟨b, off, none⟩, lC, iA, iC, uA, uC⟩ m bo (pre5 ++ (m.lT.take k).map (linkD m)) from hN.out.grow ((Below.refl _ _).alloc (Nat.le_refl _) _))
                have hbx := hide (show Blk (wr.alloc (.cells #[.int .i64 ((q1 : Int) + 1), .int .i64 ((q2 : Int) + 1), .int .i64 cp] 73)) wr.heap.size 73 #[.int .i64 ((q1 : Int) + 1), .int .i64 ((q2 : Int) + 1), .int .i64 cp] from Blk.new wr _ _)
                have hAd := (hsb.out).addNM 4 ⟨#[]⟩ [s1, s2] [cp] (by simp) ⟨z0, by intro r hr; simp at hr; rcases hr with rfl | rfl <;> assumption⟩ (by have := HL5.out; have := HLN.out; simp; omega)
                have hAe := (hsb.out).addMN 4 ⟨#[]⟩ [s1, s2] [cp] (by simp) ⟨z0, by intro r hr; simp at hr; rcases hr with rfl | rfl <;> assumption⟩ (by have := HL5.out; have := HLN.out; simp; omega)
                rw [show (wr.alloc (.cells #[.int .i64 ((q1 : Int) + 1), .int .i64 ((q2 : Int) + 1), .int .i64 cp] 73)).heap.size = wr.heap.size + 1 by simp] at hAd hAe
                have HA1 := hide (show Calls Tryz.prog 36 #[.int .i64 4, .string ⟨#[]⟩, .slice (some ⟨wr.heap.size + 1, 0, none⟩) 2 2, .slice (some ⟨wr.heap.size + 1 + 1, 0, none⟩) 1 1, .pointer (some ⟨bo, 0, none⟩)] ((((wr.alloc (.cells #[.int .i64 ((q1 : Int) + 1), .int .i64 ((q2 : Int) + 1), .int .i64 cp] 73)).alloc (.cells #[.string s1, .string s2] 9)).alloc (.cells #[.int .i64 cp] 3)).drew) (AddQ w ((((wr.alloc (.cells #[.int .i64 ((q1 : Int) + 1), .int .i64 ((q2 : Int) + 1), .int .i64 cp] 73)).alloc (.cells #[.string s1, .string s2] 9)).alloc (.cells #[.int .i64 cp] 3)).drew) ⟨some ⟨b1, off1, none⟩, sC, fA, fC, rA, rC, mA, mC, some ⟨b, off, none⟩, lC, iA, iC, uA, uC⟩ m bo ((pre5 ++ (m.lT.take k).map (linkD m)) ++ [⟨4, ⟨#[]⟩, [s1, s2], [cp], 0, false⟩])) from hAd)
                have HA2 := hide (show Calls Tryz.prog 36 #[.int .i64 4, .string ⟨#[]⟩, .slice (some ⟨wr.heap.size + 1 + 1, 0, none⟩) 2 2, .slice (some ⟨wr.heap.size + 1, 0, none⟩) 1 1, .pointer (some ⟨bo, 0, none⟩)] ((((wr.alloc (.cells #[.int .i64 ((q1 : Int) + 1), .int .i64 ((q2 : Int) + 1), .int .i64 cp] 73)).alloc (.cells #[.int .i64 cp] 3)).alloc (.cells #[.string s1, .string s2] 9)).drew) (AddQ w ((((wr.alloc (.cells #[.int .i64 ((q1 : Int) + 1), .int .i64 ((q2 : Int) + 1), .int .i64 cp] 73)).alloc (.cells #[.int .i64 cp] 3)).alloc (.cells #[.string s1, .string s2] 9)).drew) ⟨some ⟨b1, off1, none⟩, sC, fA, fC, rA, rC, mA, mC, some ⟨b, off, none⟩, lC, iA, iC, uA, uC⟩ m bo ((pre5 ++ (m.lT.take k).map (linkD m)) ++ [⟨4, ⟨#[]⟩, [s1, s2], [cp], 0, false⟩])) from hAe)
                have HNB := hide (show wr.heap.size ≠ bo by have := hN.out.size; omega)
                have HKC := hide (fun (W : World) (ds : List Decl) (d : DS w W ⟨some ⟨b1, off1, none⟩, sC, fA, fC, rA, rC, mA, mC, some ⟨b, off, none⟩, lC, iA, iC, uA, uC⟩ m bo ds) (b : Blk W wr.heap.size 73 #[.int .i64 ((q1 : Int) + 1), .int .i64 ((q2 : Int) + 1), .int .i64 cp]) => (show W.cell? ⟨wr.heap.size, 0, none⟩ = some (.int .i64 ((q1 : Int) + 1)) ∧ W.cell? ⟨wr.heap.size, 1, none⟩ = some (.int .i64 ((q2 : Int) + 1)) ∧ W.cell? ⟨wr.heap.size, 2, none⟩ = some (.int .i64 cp) ∧ W.cell? ⟨w.heap.size, 0, none⟩ = some (.slice (some ⟨b1, off1, none⟩) m.sT.length sC) ∧ W.cell? ⟨b1, off1 + q1, none⟩ = some (.string s1) ∧ W.cell? ⟨b1, off1 + q2, none⟩ = some (.string s2) from
                 ⟨b.cell 0, b.cell 1, b.cell 2, d.mw.blk.cell 0, (d.mw.b.cell (p := ⟨b1, off1 + q1, none⟩) hb1).trans y1, (d.mw.b.cell (p := ⟨b1, off1 + q2, none⟩) hb1).trans y2⟩))
                have HKG := hide (fun W (hb : Below (wr.alloc (.cells #[.int .i64 ((q1 : Int) + 1), .int .i64 ((q2 : Int) + 1), .int .i64 cp] 73)).heap.size (wr.alloc (.cells #[.int .i64 ((q1 : Int) + 1), .int .i64 ((q2 : Int) + 1), .int .i64 cp] 73)) W) => And.intro (hsb.out.grow hb) (hbx.out.below hb (by simp)))
                have hkI : (k : Int) < (m.lT.length : Int) := by omega
                have h1I : (q1 : Int) < (m.sT.length : Int) := by omega
                have h2I : (q2 : Int) < (m.sT.length : Int) := by omega
                have hw1 : IntKind.i64.wrap (q1 : Int) = q1 := IntWalk.i64_in _ (by have := HLN.out; omega)
                have hw2 : IntKind.i64.wrap (q2 : Int) = q2 := IntWalk.i64_in _ (by have := HLN.out; omega)
                have HLT := hide hlt
                clear e1 e2 hN y1 y2 hAd hAe z0 z1 z2 hE hs1 hs2 hcp hlt hA2
                go_upto_region 28 with (fail)
                go_region_held3 (fun W => W.cell? ⟨wr.heap.size, 0, none⟩ = some (.int .i64 ((q1 : Int) + 1)) ∧ W.cell? ⟨wr.heap.size, 1, none⟩ = some (.int .i64 ((q2 : Int) + 1)) ∧ W.cell? ⟨wr.heap.size, 2, none⟩ = some (.int .i64 cp) ∧ W.cell? ⟨w.heap.size, 0, none⟩ = some (.slice (some ⟨b1, off1, none⟩) m.sT.length sC) ∧ W.cell? ⟨b1, off1 + q1, none⟩ = some (.string s1) ∧ W.cell? ⟨b1, off1 + q2, none⟩ = some (.string s2))
                 ((with_reducible (first | exact HKC.out _ _ hsb.out.drew hbx.out.drew | exact HKC.out _ _ (HKG.out _ (below_1 _ _)).1 (HKG.out _ (below_1 _ _)).2 | exact HKC.out _ _ (HKG.out _ (below_2 _ _ _)).1 (HKG.out _ (below_2 _ _ _)).2 | exact HKC.out _ _ HD3.out c7)))
                 ((first | (go_at_call 36; (with_reducible refine HA1.out.mono ?_); rintro e w3 ⟨rfl, hd3, hbu, hkx⟩; have HD3 := hide hd3; have c7 := hkx _ _ _ (by decide) HNB.out (HKG.out _ (below_2 _ _ _)).2; clear hd3 hbu hkx) | (go_at_call 36; (with_reducible refine HA2.out.mono ?_); rintro e w3 ⟨rfl, hd3, hbu, hkx⟩; have HD3 := hide hd3; have c7 := hkx _ _ _ (by decide) HNB.out (HKG.out _ (below_2 _ _ _)).2; clear hd3 hbu hkx)))
                all_goals
                 go_wp2_with fail
                 go_roundw
                 case rel => exact ⟨k + 1, by have := HLT.out; omega, by have := HLT.out; go_num, by rw [← E.out]; exact HD3⟩
                 case measure => have := HLT.out; simp [intOf]; omega
              · skip
                obtain rfl : k = m.lT.length := by omega
                rw [List.take_length] at hN
                have HN := hN
                clear hN hlt hk a0 l1
                have HL6 := hide (show (pre5 ++ m.lT.map (linkD m)).length ≤ 600 by have := HL5.out; have := HLN.out; simp; omega)
                obtain ⟨pre6, hpre⟩ : ∃ pre6 : List Decl, pre6 = pre5 ++ m.lT.map (linkD m) := ⟨_, rfl⟩
                rw [← hpre] at HN HL6
                have HP6 := hide hpre
                clear hpre
                obtain ⟨a0, a1, a2, a3, a4, a5, a6, a7, a8, a9, a10⟩ := MB.cells HN.out.mw.blk
                dsimp only at a5
                clear a0 a1 a2 a3 a4 a6 a7 a8 a9 a10
                have ml := D.out.il
                have HN2 : Hid (DS w wr ⟨sA, sC, fA, fC, rA, rC, mA, mC, lA, lC, iA, iC, uA, uC⟩ m bo (pre6 ++ (m.iT.take 0).map (itemD m))) := hide (by simpa using HN.out)
                clear HN
                go_upto_region 31 with (fail)
                go_loopw [16, 17, 128] (fun s0 s1 i wr => ∃ k : Nat, k ≤ m.iT.length ∧ i = .int .i64 k ∧ Hid (DS w wr ⟨sA, sC, fA, fC, rA, rC, mA, mC, lA, lC, iA, iC, uA, uC⟩ m bo (pre6 ++ (m.iT.take k).map (itemD m)))) (fun _ _ i _ => m.iT.length - (intOf i).toNat)
                case atStart => exact ⟨0, Nat.zero_le _, rfl, HN2⟩
                case round =>
                 clear HN2 a5
                 obtain ⟨k, hk, rfl, hN⟩ := hrel
                 obtain ⟨a0, a1, a2, a3, a4, a5, a6, a7, a8, a9, a10⟩ := MB.cells hN.out.mw.blk
                 dsimp only at a0 a1 a2 a3 a4 a5 a6 a7 a8 a9 a10
                 have l1 := hN.out.mw.lt
                 by_cases hlt : k < m.iT.length
                 · skip
                   obtain ⟨x, hx⟩ : ∃ x, m.iT[k] = x := ⟨_, rfl⟩
                   have hat := (hN.out.mw.md D.out).dI.item hlt
                   have hOn := on_all HVM.out (List.getElem_mem hlt)
                   have hOl := valid_on HVM.out (List.getElem_mem hlt)
                   have hKd := valid_kind HVM.out (List.getElem_mem hlt)
                   have z0 := HNS.out _ (mem_item hlt)
                   have hE := dec_succ pre6 (itemD m) m.iT hlt
                   rw [hx] at hat hOn hOl hKd z0 hE
                   have hat : ∃ b off A2 c2, iA = some ⟨b, off, none⟩ ∧ b < wr.heap.size ∧ wr.cell? ⟨b, off + k * 7, none⟩ = some (.string x.name) ∧ wr.cell? ⟨b, off + k * 7 + 1, none⟩ = some (.int .i64 x.kind) ∧ wr.cell? ⟨b, off + k * 7 + 2, none⟩ = some (.int .i64 x.count) ∧
                       wr.cell? ⟨b, off + k * 7 + 3, none⟩ = some (.int .i64 x.load) ∧ wr.cell? ⟨b, off + k * 7 + 4, none⟩ = some (.int .i64 x.size) ∧ wr.cell? ⟨b, off + k * 7 + 5, none⟩ = some (.int .i64 x.share) ∧ wr.cell? ⟨b, off + k * 7 + 6, none⟩ = some (.slice A2 x.on.length c2) ∧
                       x.name.size ≤ 9223372036854775807 ∧ x.on.length ≤ c2 ∧ c2 ≤ 9223372036854775807 ∧ Ints wr wr.heap.size A2 x.on := hat
                   obtain ⟨b, off, A2, c2, hA, hb, x0, x1, x2, x3, x4, x5, x6, v1, v2, v3, hI⟩ := hat
                   obtain ⟨nm, kd, cnt, ld, sz, sh, on⟩ := x
                   dsimp only at hOn hOl hKd z0 x0 x1 x2 x3 x4 x5 x6 v1 v2 v3 hI
                   obtain ⟨nOn, hnOn⟩ : ∃ n, n = on.length := ⟨_, rfl⟩
                   rw [← hnOn] at x6
                   obtain ⟨al, hal⟩ : ∃ al, al = on.map (mchN m) := ⟨_, rfl⟩
                   obtain ⟨nu, hnu⟩ : ∃ nu : List Int, nu = (if kd = 1 then [cnt] else []) ++ [ld, sz, sh] := ⟨_, rfl⟩
                   have hEI : itemD m ⟨nm, kd, cnt, ld, sz, sh, on⟩ = ⟨5 + kd, nm, al, nu, 0, false⟩ := by unfold itemD; rw [hal, hnu]
                   rw [hEI] at hE
                   have E := hide hE
                   have hAL : ∀ r ∈ al, r.size ≤ 16384 := by
                    intro r hr
                    rw [hal] at hr
                    obtain ⟨n, _, rfl⟩ := List.mem_map.1 hr
                    exact mchN_size HNS.out n
                   have HAL := hide (And.intro z0 hAL)
                   subst hA
                   have HNN := hide (show DS w wr ⟨sA, sC, fA, fC, rA, rC, mA, mC, lA, lC, some ⟨b, off, none⟩, iC, uA, uC⟩ m bo (pre6 ++ (m.iT.take k).map (itemD m)) from hN.out)
                   have HII := hide hI
                   have HNB := hide (show wr.heap.size ≠ bo by have := hN.out.size; omega)
                   have HMC := hide (fun W (hd : MD W W.heap.size ⟨sA, sC, fA, fC, rA, rC, mA, mC, lA, lC, some ⟨b, off, none⟩, iC, uA, uC⟩ m) (hi : Ints W W.heap.size A2 on) => machines19 ⟨sA, sC, fA, fC, rA, rC, mA, mC, lA, lC, some ⟨b, off, none⟩, iC, uA, uC⟩ m A2 c2 on W hd hi hOn (by omega))
                   rw [← hnOn] at HMC
                   dsimp only at HMC
                   have HKC := hide (fun (W : World) (ds : List Decl) (d : DS w W ⟨sA, sC, fA, fC, rA, rC, mA, mC, lA, lC, some ⟨b, off, none⟩, iC, uA, uC⟩ m bo ds) (bk : Blk W wr.heap.size 49 #[.string nm, .int .i64 kd, .int .i64 cnt, .int .i64 ld, .int .i64 sz, .int .i64 sh, .slice A2 nOn c2]) => (show W.cell? ⟨wr.heap.size, 0, none⟩ = some (.string nm) ∧ W.cell? ⟨wr.heap.size, 1, none⟩ = some (.int .i64 kd) ∧ W.cell? ⟨wr.heap.size, 6, none⟩ = some (.slice A2 nOn c2) ∧ W.cell? ⟨w.heap.size, 0, none⟩ = some (.slice sA m.sT.length sC) ∧ W.cell? ⟨w.heap.size, 1, none⟩ = some (.slice fA m.fT.length fC) ∧ W.cell? ⟨w.heap.size, 2, none⟩ = some (.slice rA m.rT.length rC) ∧ W.cell? ⟨w.heap.size, 3, none⟩ = some (.slice mA m.mT.length mC) ∧ W.cell? ⟨w.heap.size, 4, none⟩ = some (.slice lA m.lT.length lC) ∧ W.cell? ⟨w.heap.size, 5, none⟩ = some (.slice (some ⟨b, off, none⟩) m.iT.length iC) ∧ W.cell? ⟨w.heap.size, 6, none⟩ = some (.int .i64 m.dT) ∧ W.cell? ⟨w.heap.size, 7, none⟩ = some (.int .i64 m.oT) ∧ W.cell? ⟨w.heap.size, 8, none⟩ = some (.int .i64 m.vT) ∧ W.cell? ⟨w.heap.size, 9, none⟩ = some (.int .i64 m.aT) ∧ W.cell? ⟨w.heap.size, 10, none⟩ = some (.slice uA m.uT.length uC) from
                    ⟨bk.cell 0, bk.cell 1, bk.cell 6, d.mw.blk.cell 0, d.mw.blk.cell 1, d.mw.blk.cell 2, d.mw.blk.cell 3, d.mw.blk.cell 4, d.mw.blk.cell 5, d.mw.blk.cell 6, d.mw.blk.cell 7, d.mw.blk.cell 8, d.mw.blk.cell 9, d.mw.blk.cell 10⟩))
                   have HOL := hide (show al.length ≤ 16 by rw [hal]; simpa using hOl)
                   have HDL := hide (show (pre6 ++ (m.iT.take k).map (itemD m)).length ≤ 1000 by have := HL6.out; have := HLN.out; simp; omega)
                   have hkI : (k : Int) < (m.iT.length : Int) := by omega
                   have hB2 : ∀ b : Bool, b = false ∨ b = true := fun b => by cases b <;> simp
                   have HLT := hide hlt
                   have HNU := hide hnu
                   have hk0 : 0 ≤ kd := by omega
                   have hk2 : kd ≤ 2 := by omega
                   have HALE := hide hal
                   have HBO := hide hN.out.size
                   clear hN hE hx hEI hOn hOl hKd z0 hAL hI v1 v2 v3 hnOn hal hnu hlt
                   rcases hB2 (kd == 1) with g | g
                   · have HNQ := hide (show nu = [ld, sz, sh] by rw [HNU.out, if_neg (by simpa using g)]; rfl)
                     go_upto_region 36 with (fail)
                     have hbw : Below wr.heap.size wr ((wr.alloc (.cells #[.string nm, .int .i64 kd, .int .i64 cnt, .int .i64 ld, .int .i64 sz, .int .i64 sh, .slice A2 nOn c2] 49)).alloc (.cells #[.int .i64 ld, .int .i64 sz, .int .i64 sh] 3)) := ((Below.refl _ _).alloc (Nat.le_refl _) _).alloc (by simp) _
                     have HNL : Hid (3 = nu.length) := hide (by rw [HNQ.out]; rfl)
                     have HNW : Hid (OwnI (bo + 1) ((wr.alloc (.cells #[.string nm, .int .i64 kd, .int .i64 cnt, .int .i64 ld, .int .i64 sz, .int .i64 sh, .slice A2 nOn c2] 49)).alloc (.cells #[.int .i64 ld, .int .i64 sz, .int .i64 sh] 3)) (.slice (some ⟨wr.heap.size + 1, 0, none⟩) 3 3) nu) := hide (by
                      have h3 := OwnI.new (B := bo + 1) (wr.alloc (.cells #[.string nm, .int .i64 kd, .int .i64 cnt, .int .i64 ld, .int .i64 sz, .int .i64 sh, .slice A2 nOn c2] 49)) [ld, sz, sh] (by have := HBO.out; simp; omega) (by simp [maxLen])
                      rw [show (wr.alloc (.cells #[.string nm, .int .i64 kd, .int .i64 cnt, .int .i64 ld, .int .i64 sz, .int .i64 sh, .slice A2 nOn c2] 49)).heap.size = wr.heap.size + 1 by simp] at h3
                      rw [HNQ.out]; exact h3)
                     have hbk : Blk ((wr.alloc (.cells #[.string nm, .int .i64 kd, .int .i64 cnt, .int .i64 ld, .int .i64 sz, .int .i64 sh, .slice A2 nOn c2] 49)).alloc (.cells #[.int .i64 ld, .int .i64 sz, .int .i64 sh] 3)) wr.heap.size 49 #[.string nm, .int .i64 kd, .int .i64 cnt, .int .i64 ld, .int .i64 sz, .int .i64 sh, .slice A2 nOn c2] := (Blk.new wr _ _).alloc _
                     obtain ⟨wx, hwx⟩ : ∃ wx, wx = (wr.alloc (.cells #[.string nm, .int .i64 kd, .int .i64 cnt, .int .i64 ld, .int .i64 sz, .int .i64 sh, .slice A2 nOn c2] 49)).alloc (.cells #[.int .i64 ld, .int .i64 sz, .int .i64 sh] 3) := ⟨_, rfl⟩
                     rw [← hwx] at hbw hbk HNW ⊢
                     have HBW := hide hbw
                     have HBX := hide hbk
                     clear hbw hbk hwx
                     have hw5 : IntKind.i64.wrap (5 + kd) = 5 + kd := IntWalk.i64_in _ (by omega)
                     have HDX := hide (HNN.out.grow HBW.out)
                     have HIX := hide (show Ints wx.drew wx.drew.heap.size A2 on from HII.out.grow HBW.out.drew)
                     have HMX := hide (show MD wx.drew wx.drew.heap.size ⟨sA, sC, fA, fC, rA, rC, mA, mC, lA, lC, some ⟨b, off, none⟩, iC, uA, uC⟩ m from HDX.out.drew.mw.md D.out)
                     go_region_held3 (fun W => W.cell? ⟨wr.heap.size, 0, none⟩ = some (.string nm) ∧ W.cell? ⟨wr.heap.size, 1, none⟩ = some (.int .i64 kd) ∧ W.cell? ⟨wr.heap.size, 6, none⟩ = some (.slice A2 nOn c2) ∧ W.cell? ⟨w.heap.size, 0, none⟩ = some (.slice sA m.sT.length sC) ∧ W.cell? ⟨w.heap.size, 1, none⟩ = some (.slice fA m.fT.length fC) ∧ W.cell? ⟨w.heap.size, 2, none⟩ = some (.slice rA m.rT.length rC) ∧ W.cell? ⟨w.heap.size, 3, none⟩ = some (.slice mA m.mT.length mC) ∧ W.cell? ⟨w.heap.size, 4, none⟩ = some (.slice lA m.lT.length lC) ∧ W.cell? ⟨w.heap.size, 5, none⟩ = some (.slice (some ⟨b, off, none⟩) m.iT.length iC) ∧ W.cell? ⟨w.heap.size, 6, none⟩ = some (.int .i64 m.dT) ∧ W.cell? ⟨w.heap.size, 7, none⟩ = some (.int .i64 m.oT) ∧ W.cell? ⟨w.heap.size, 8, none⟩ = some (.int .i64 m.vT) ∧ W.cell? ⟨w.heap.size, 9, none⟩ = some (.int .i64 m.aT) ∧ W.cell? ⟨w.heap.size, 10, none⟩ = some (.slice uA m.uT.length uC))
                      ((with_reducible (first | exact HKC.out _ _ HDX.out.drew HBX.out.drew | exact HKC.out _ _ HDY.out c6 | exact HKC.out _ _ HD3.out c7)))
                      ((first
                        | (go_at_call 37; (with_reducible refine (HMC.out _ HMX.out HIX.out).mono ?_); rintro e wy ⟨vy, rfl, hoy, hby⟩
                           have HDY := hide (HDX.out.drew.grow hby)
                           have c6 := HBX.out.drew.below hby HBX.out.lt
                           have hny := OwnI.below (w := wx.drew) HNW.out hby
                           rw [← HALE.out] at hoy
                           have hoz := OwnS.lower hoy (show bo + 1 ≤ wx.drew.heap.size from HDX.out.size)
                           obtain ⟨A1, c1, rfl, _, _⟩ := hoz.formD
                           obtain ⟨n1, hn1⟩ : ∃ n1, n1 = al.length := ⟨_, rfl⟩
                           rw [← hn1] at hoz ⊢
                           have HAY := hide (HDY.out.addL (5 + kd) nm A1 _ n1 _ c1 _ al nu hn1 HNL.out hoz hny HAL.out HDL.out)
                           clear hoy hby hny hoz hn1)
                        | (go_at_call 36; (with_reducible refine HAY.out.mono ?_); rintro e w3 ⟨rfl, hd3, hbu, hkx⟩; have HD3 := hide hd3; have c7 := hkx _ _ _ (by decide) HNB.out c6; clear hd3 hbu hkx)))
                     go_wp2_with fail
                     go_roundw
                     case rel => exact ⟨k + 1, by have := HLT.out; omega, by have := HLT.out; go_num, by rw [← E.out]; exact HD3⟩
                     case measure => have := HLT.out; simp [intOf]; omega
                   · have HNQ := hide (show nu = [cnt] ++ [ld, sz, sh] by rw [HNU.out, if_pos (by simpa using g)])
                     go_upto_region 36 with (fail)
                     have hcap := cut4 1 (wr.tape wr.drawn (Question.appendCap 4 1 3)) 3
                     obtain ⟨cc, hcc⟩ : ∃ cc, cc = (Question.appendCap 4 1 3).cut (wr.tape wr.drawn (Question.appendCap 4 1 3)) := ⟨_, rfl⟩
                     rw [← hcc] at hcap ⊢
                     have hbw : Below wr.heap.size wr ((((wr.alloc (.cells #[.string nm, .int .i64 kd, .int .i64 cnt, .int .i64 ld, .int .i64 sz, .int .i64 sh, .slice A2 nOn c2] 49)).alloc (.cells #[.int .i64 ld, .int .i64 sz, .int .i64 sh] 3)).alloc (.cells #[.int .i64 cnt] 3)).alloc (.cells (#[.int .i64 cnt] ++ (#[.int .i64 ld, .int .i64 sz, .int .i64 sh] ++ Builtin.zeroCells #[Value.int .i64 0] (cc - 4))) 3)).drew := (((((Below.refl wr.heap.size wr).alloc (Nat.le_refl _) _).alloc (by simp) _).alloc (by simp; omega) _).alloc (by simp; omega) _).drew
                     have hbk : Blk ((((wr.alloc (.cells #[.string nm, .int .i64 kd, .int .i64 cnt, .int .i64 ld, .int .i64 sz, .int .i64 sh, .slice A2 nOn c2] 49)).alloc (.cells #[.int .i64 ld, .int .i64 sz, .int .i64 sh] 3)).alloc (.cells #[.int .i64 cnt] 3)).alloc (.cells (#[.int .i64 cnt] ++ (#[.int .i64 ld, .int .i64 sz, .int .i64 sh] ++ Builtin.zeroCells #[Value.int .i64 0] (cc - 4))) 3)).drew wr.heap.size 49 #[.string nm, .int .i64 kd, .int .i64 cnt, .int .i64 ld, .int .i64 sz, .int .i64 sh, .slice A2 nOn c2] := (((Blk.new wr _ _).alloc _).alloc _).alloc _
                     have HNL : Hid (4 = nu.length) := hide (by rw [HNQ.out]; rfl)
                     have HNW : Hid (OwnI (bo + 1) ((((wr.alloc (.cells #[.string nm, .int .i64 kd, .int .i64 cnt, .int .i64 ld, .int .i64 sz, .int .i64 sh, .slice A2 nOn c2] 49)).alloc (.cells #[.int .i64 ld, .int .i64 sz, .int .i64 sh] 3)).alloc (.cells #[.int .i64 cnt] 3)).alloc (.cells (#[.int .i64 cnt] ++ (#[.int .i64 ld, .int .i64 sz, .int .i64 sh] ++ Builtin.zeroCells #[Value.int .i64 0] (cc - 4))) 3)).drew (.slice (some ⟨wr.heap.size + 1 + 1 + 1, 0, none⟩) 4 cc) nu) := hide (by
                      have h3 := own4 (((wr.alloc (.cells #[.string nm, .int .i64 kd, .int .i64 cnt, .int .i64 ld, .int .i64 sz, .int .i64 sh, .slice A2 nOn c2] 49)).alloc (.cells #[.int .i64 ld, .int .i64 sz, .int .i64 sh] 3)).alloc (.cells #[.int .i64 cnt] 3)) (bo + 1) cnt ld sz sh cc hcap.1 hcap.2 (by have := HBO.out; simp; omega)
                      rw [show (((wr.alloc (.cells #[.string nm, .int .i64 kd, .int .i64 cnt, .int .i64 ld, .int .i64 sz, .int .i64 sh, .slice A2 nOn c2] 49)).alloc (.cells #[.int .i64 ld, .int .i64 sz, .int .i64 sh] 3)).alloc (.cells #[.int .i64 cnt] 3)).heap.size = wr.heap.size + 1 + 1 + 1 by simp] at h3
                      rw [HNQ.out]; exact h3)
                     obtain ⟨wx, hwx⟩ : ∃ wx, wx = ((((wr.alloc (.cells #[.string nm, .int .i64 kd, .int .i64 cnt, .int .i64 ld, .int .i64 sz, .int .i64 sh, .slice A2 nOn c2] 49)).alloc (.cells #[.int .i64 ld, .int .i64 sz, .int .i64 sh] 3)).alloc (.cells #[.int .i64 cnt] 3)).alloc (.cells (#[.int .i64 cnt] ++ (#[.int .i64 ld, .int .i64 sz, .int .i64 sh] ++ Builtin.zeroCells #[Value.int .i64 0] (cc - 4))) 3)).drew := ⟨_, rfl⟩
                     rw [← hwx] at hbw hbk HNW ⊢
                     have HBW := hide hbw
                     have HBX := hide hbk
                     clear hbw hbk hwx hcc hcap
                     have hw5 : IntKind.i64.wrap (5 + kd) = 5 + kd := IntWalk.i64_in _ (by omega)
                     have HDX := hide (HNN.out.grow HBW.out)
                     have HIX := hide (show Ints wx.drew wx.drew.heap.size A2 on from HII.out.grow HBW.out.drew)
                     have HMX := hide (show MD wx.drew wx.drew.heap.size ⟨sA, sC, fA, fC, rA, rC, mA, mC, lA, lC, some ⟨b, off, none⟩, iC, uA, uC⟩ m from HDX.out.drew.mw.md D.out)
                     go_region_held3 (fun W => W.cell? ⟨wr.heap.size, 0, none⟩ = some (.string nm) ∧ W.cell? ⟨wr.heap.size, 1, none⟩ = some (.int .i64 kd) ∧ W.cell? ⟨wr.heap.size, 6, none⟩ = some (.slice A2 nOn c2) ∧ W.cell? ⟨w.heap.size, 0, none⟩ = some (.slice sA m.sT.length sC) ∧ W.cell? ⟨w.heap.size, 1, none⟩ = some (.slice fA m.fT.length fC) ∧ W.cell? ⟨w.heap.size, 2, none⟩ = some (.slice rA m.rT.length rC) ∧ W.cell? ⟨w.heap.size, 3, none⟩ = some (.slice mA m.mT.length mC) ∧ W.cell? ⟨w.heap.size, 4, none⟩ = some (.slice lA m.lT.length lC) ∧ W.cell? ⟨w.heap.size, 5, none⟩ = some (.slice (some ⟨b, off, none⟩) m.iT.length iC) ∧ W.cell? ⟨w.heap.size, 6, none⟩ = some (.int .i64 m.dT) ∧ W.cell? ⟨w.heap.size, 7, none⟩ = some (.int .i64 m.oT) ∧ W.cell? ⟨w.heap.size, 8, none⟩ = some (.int .i64 m.vT) ∧ W.cell? ⟨w.heap.size, 9, none⟩ = some (.int .i64 m.aT) ∧ W.cell? ⟨w.heap.size, 10, none⟩ = some (.slice uA m.uT.length uC))
                      ((with_reducible (first | exact HKC.out _ _ HDX.out.drew HBX.out.drew | exact HKC.out _ _ HDY.out c6 | exact HKC.out _ _ HD3.out c7)))
                      ((first
                        | (go_at_call 37; (with_reducible refine (HMC.out _ HMX.out HIX.out).mono ?_); rintro e wy ⟨vy, rfl, hoy, hby⟩
                           have HDY := hide (HDX.out.drew.grow hby)
                           have c6 := HBX.out.drew.below hby HBX.out.lt
                           have hny := OwnI.below (w := wx.drew) HNW.out hby
                           rw [← HALE.out] at hoy
                           have hoz := OwnS.lower hoy (show bo + 1 ≤ wx.drew.heap.size from HDX.out.size)
                           obtain ⟨A1, c1, rfl, _, _⟩ := hoz.formD
                           obtain ⟨n1, hn1⟩ : ∃ n1, n1 = al.length := ⟨_, rfl⟩
                           rw [← hn1] at hoz ⊢
                           have HAY := hide (HDY.out.addL (5 + kd) nm A1 _ n1 _ c1 _ al nu hn1 HNL.out hoz hny HAL.out HDL.out)
                           clear hoy hby hny hoz hn1)
                        | (go_at_call 36; (with_reducible refine HAY.out.mono ?_); rintro e w3 ⟨rfl, hd3, hbu, hkx⟩; have HD3 := hide hd3; have c7 := hkx _ _ _ (by decide) HNB.out c6; clear hd3 hbu hkx)))
                     go_wp2_with fail
                     go_roundw
                     case rel => exact ⟨k + 1, by have := HLT.out; omega, by have := HLT.out; go_num, by rw [← E.out]; exact HD3⟩
                     case measure => have := HLT.out; simp [intOf]; omega
                 · skip
                   obtain rfl : k = m.iT.length := by omega
                   rw [List.take_length] at hN
                   have HN := hN
                   clear hN hlt hk a0 a1 a2 a3 a4 a5 a6 a7 a8 a9 a10 l1
                   have HL7 := hide (show (pre6 ++ m.iT.map (itemD m)).length ≤ 700 by have := HL6.out; have := HLN.out; simp; omega)
                   obtain ⟨pre7, hpre⟩ : ∃ pre7 : List Decl, pre7 = pre6 ++ m.iT.map (itemD m) := ⟨_, rfl⟩
                   rw [← hpre] at HN HL7
                   have HP7 := hide hpre
                   clear hpre
                   obtain ⟨q, e1, h1⟩ := dark_num HVM.out
                   have hat1 : ∃ b off, sA = some ⟨b, off, none⟩ ∧ b < w.heap.size ∧ w.cell? ⟨b, off + q, none⟩ = some (.string m.sT[q]) := str_at D.out.dS h1
                   obtain ⟨b1, off1, hA1, hb1, y1⟩ := hat1
                   have z0 : (⟨#[]⟩ : ByteArray).size ≤ 16384 := by decide
                   have z1 : (m.sT[q]).size ≤ 16384 := HNS.out _ (by unfold nameList; simp)
                   have HDD := hide (show darkD m = ⟨8, ⟨#[]⟩, [m.sT[q]], [m.oT, m.vT], 0, false⟩ by unfold darkD; rw [e1, siteN_is m h1])
                   obtain ⟨s1, hs1⟩ : ∃ s1, s1 = m.sT[q] := ⟨_, rfl⟩
                   rw [← hs1] at y1 z1 HDD
                   have HNE := HN
                   subst hA1
                   have hsb := HNE
                   have hAd := (hsb.out).addNM 8 ⟨#[]⟩ [s1] [m.oT, m.vT] (by simp) ⟨z0, by intro r hr; simp at hr; subst hr; exact z1⟩ (by have := HL7.out; omega)
                   have hAe := (hsb.out).addMN 8 ⟨#[]⟩ [s1] [m.oT, m.vT] (by simp) ⟨z0, by intro r hr; simp at hr; subst hr; exact z1⟩ (by have := HL7.out; omega)
                   have HA1 := hide (show Calls Tryz.prog 36 #[.int .i64 8, .string ⟨#[]⟩, .slice (some ⟨wr.heap.size, 0, none⟩) 1 1, .slice (some ⟨wr.heap.size + 1, 0, none⟩) 2 2, .pointer (some ⟨bo, 0, none⟩)] ((((wr).alloc (.cells #[.string s1] 9)).alloc (.cells #[.int .i64 m.oT, .int .i64 m.vT] 3)).drew) (AddQ w ((((wr).alloc (.cells #[.string s1] 9)).alloc (.cells #[.int .i64 m.oT, .int .i64 m.vT] 3)).drew) ⟨some ⟨b1, off1, none⟩, sC, fA, fC, rA, rC, mA, mC, lA, lC, iA, iC, uA, uC⟩ m bo (pre7 ++ [⟨8, ⟨#[]⟩, [s1], [m.oT, m.vT], 0, false⟩])) from hAd)
                   have HA2 := hide (show Calls Tryz.prog 36 #[.int .i64 8, .string ⟨#[]⟩, .slice (some ⟨wr.heap.size + 1, 0, none⟩) 1 1, .slice (some ⟨wr.heap.size, 0, none⟩) 2 2, .pointer (some ⟨bo, 0, none⟩)] ((((wr).alloc (.cells #[.int .i64 m.oT, .int .i64 m.vT] 3)).alloc (.cells #[.string s1] 9)).drew) (AddQ w ((((wr).alloc (.cells #[.int .i64 m.oT, .int .i64 m.vT] 3)).alloc (.cells #[.string s1] 9)).drew) ⟨some ⟨b1, off1, none⟩, sC, fA, fC, rA, rC, mA, mC, lA, lC, iA, iC, uA, uC⟩ m bo (pre7 ++ [⟨8, ⟨#[]⟩, [s1], [m.oT, m.vT], 0, false⟩])) from hAe)
                   have HKC := hide (fun (W : World) (ds : List Decl) (d : DS w W ⟨some ⟨b1, off1, none⟩, sC, fA, fC, rA, rC, mA, mC, lA, lC, iA, iC, uA, uC⟩ m bo ds) => (show W.cell? ⟨w.heap.size, 0, none⟩ = some (.slice (some ⟨b1, off1, none⟩) m.sT.length sC) ∧ W.cell? ⟨w.heap.size, 6, none⟩ = some (.int .i64 ((q : Int) + 1)) ∧ W.cell? ⟨w.heap.size, 7, none⟩ = some (.int .i64 m.oT) ∧ W.cell? ⟨w.heap.size, 8, none⟩ = some (.int .i64 m.vT) ∧ W.cell? ⟨b1, off1 + q, none⟩ = some (.string s1) from
                    ⟨d.mw.blk.cell 0, by rw [← e1]; exact d.mw.blk.cell 6, d.mw.blk.cell 7, d.mw.blk.cell 8, (d.mw.b.cell (p := ⟨b1, off1 + q, none⟩) hb1).trans y1⟩))
                   have HKG := hide (fun W (hb : Below wr.heap.size wr W) => hsb.out.grow hb)
                   have h1I : (q : Int) < (m.sT.length : Int) := by omega
                   have hw1 : IntKind.i64.wrap (q : Int) = q := IntWalk.i64_in _ (by have := HLN.out; omega)
                   clear e1 y1 hAd hAe z0 z1 hs1
                   go_upto_region 38 with (fail)
                   go_cut [] from 160 to 174 (fun wx => DS w wx ⟨some ⟨b1, off1, none⟩, sC, fA, fC, rA, rC, mA, mC, lA, lC, iA, iC, uA, uC⟩ m bo (pre7 ++ [darkD m]))
                   case first =>
                    go_region_held3 (fun W => W.cell? ⟨w.heap.size, 0, none⟩ = some (.slice (some ⟨b1, off1, none⟩) m.sT.length sC) ∧ W.cell? ⟨w.heap.size, 6, none⟩ = some (.int .i64 ((q : Int) + 1)) ∧ W.cell? ⟨w.heap.size, 7, none⟩ = some (.int .i64 m.oT) ∧ W.cell? ⟨w.heap.size, 8, none⟩ = some (.int .i64 m.vT) ∧ W.cell? ⟨b1, off1 + q, none⟩ = some (.string s1))
                     ((with_reducible (first | exact HKC.out _ _ hsb.out.drew | exact HKC.out _ _ (HKG.out _ (below_1 _ _)) | exact HKC.out _ _ (HKG.out _ (below_2 _ _ _)) | exact HKC.out _ _ HD3.out)))
                     ((first | (go_at_call 36; (with_reducible refine HA1.out.mono ?_); rintro e w3 ⟨rfl, hd3, hbu, hkx⟩; have HD3 := hide hd3; clear hd3 hbu hkx) | (go_at_call 36; (with_reducible refine HA2.out.mono ?_); rintro e w3 ⟨rfl, hd3, hbu, hkx⟩; have HD3 := hide hd3; clear hd3 hbu hkx)))
                    all_goals
                     go_wp2_with fail
                     go_meet
                     rw [HDD.out]
                     exact HD3.out
                   case rest =>
                    have HN8 := hide hcut
                    clear hcut HKC HKG HA1 HA2 HN h1I hw1
                    obtain ⟨a0, a1, a2, a3, a4, a5, a6, a7, a8, a9, a10⟩ := MB.cells HN8.out.mw.blk
                    try dsimp only at a9
                    clear a0 a1 a2 a3 a4 a5 a6 a7 a8 a10
                    obtain ⟨w8, hw8⟩ : ∃ w8, w8 = wc := ⟨_, rfl⟩
                    rw [← hw8] at HN8 a9 ⊢
                    clear hw8
                    have l8 := HN8.out.mw.lt
                    have hB2 : ∀ b : Bool, b = false ∨ b = true := fun b => by cases b <;> simp
                    go_upto_if 177 with (fail)
                    go_cut [] from 160 to 183 (fun wx => DS w wx ⟨some ⟨b1, off1, none⟩, sC, fA, fC, rA, rC, mA, mC, lA, lC, iA, iC, uA, uC⟩ m bo (pre7 ++ [darkD m] ++ failD m))
                    case first =>
                     rcases hB2 (decide (0 < m.aT)) with g | g
                     · have HF := hide (show failD m = [] by unfold failD; rw [if_neg (by simpa using g)])
                       simp only [g]
                       go_wp2_with fail
                       go_meet
                       rw [HF.out, List.append_nil]
                       exact HN8.out
                     · have HF := hide (show failD m = [⟨9, ⟨#[]⟩, [], [], m.aT, false⟩] by unfold failD; rw [if_pos (by simpa using g)])
                       obtain ⟨v, L, hb, ho, hL⟩ := HN8.out.out
                       have c0 : w8.cell? ⟨bo, 0, none⟩ = some v := hb.cell 0
                       have cl := hb.lt
                       have HB := hide hb
                       have HO := hide ho
                       have HLL := hide hL
                       have HLE := hide (show L.length ≤ 1000 by have h1 := congrArg List.length hL; have := HL7.out; simp at h1; omega)
                       clear hb ho hL
                       simp only [g]
                       go_wp2_with (at_builtin
                                    refine append_decls rfl _ _ rfl (bo + 1) v L rfl (World.ownsRow.alloc HO.out.1 _) _ _ 1 [((⟨9, ⟨#[]⟩, [], [], m.aT, false⟩ : Decl), .slice none 0 0, .slice none 0 0)] rfl (newD w8 ⟨9, ⟨#[]⟩, [], [], m.aT, false⟩ none none 0 0 rfl) (by intro y hy; rw [List.mem_singleton.1 hy]; exact ⟨rfl, rfl⟩) (by have := HLE.out; simp; omega) (by have := HB.out.lt; simp; omega) ?_
                                    intro v3 x3 hO3 hg3 _
                                    obtain ⟨hd8, x0, xl, xf, A3, n3, c3, hv3⟩ := ds_push (dd := ⟨9, ⟨#[]⟩, [], [], m.aT, false⟩) (ra := none) (na := none) (rc := 0) (nc := 0) HN8.out.mw HN8.out.lt HB.out HO.out (OwnS.nil_ _ _) (OwnI.nil_ _ _) ⟨show (⟨#[]⟩ : ByteArray).size ≤ 16384 by decide, by simp⟩ hO3 hg3
                                    rw [HLL.out] at hd8
                                    have HD8 := hide hd8
                                    clear hO3 hg3 hd8
                                    subst hv3)
                       go_meet
                       rw [HF.out]
                       exact HD8.out
                    case rest =>
                     have HN9 := hide hcut
                     clear hcut HN8 a9 l8 hB2
                     obtain ⟨w9, hw9⟩ : ∃ w9, w9 = wc := ⟨_, rfl⟩
                     rw [← hw9] at HN9 ⊢
                     clear hw9
                     have HL8 := hide (show (pre7 ++ [darkD m] ++ failD m).length ≤ 800 by have := HL7.out; have h2 : (failD m).length ≤ 1 := (by unfold failD; split <;> simp); simp; omega)
                     obtain ⟨pre8, hpre⟩ : ∃ pre8 : List Decl, pre8 = pre7 ++ [darkD m] ++ failD m := ⟨_, rfl⟩
                     rw [← hpre] at HN9 HL8
                     have HP8 := hide hpre
                     clear hpre
                     obtain ⟨a0, a1, a2, a3, a4, a5, a6, a7, a8, a9, a10⟩ := MB.cells HN9.out.mw.blk
                     try dsimp only at a10
                     clear a0 a1 a2 a3 a4 a5 a6 a7 a8 a9
                     have l9 := HN9.out.mw.lt
                     have ml := D.out.ul
                     have HN2 : Hid (DS w w9 ⟨some ⟨b1, off1, none⟩, sC, fA, fC, rA, rC, mA, mC, lA, lC, iA, iC, uA, uC⟩ m bo (pre8 ++ (m.uT.take 0).map (ruleDl m))) := hide (by simpa using HN9.out)
                     clear HN9
                     go_upto_region 42 with (fail)
                     go_loopw [19, 187] (fun s i wr => ∃ k : Nat, k ≤ m.uT.length ∧ i = .int .i64 k ∧ Hid (DS w wr ⟨some ⟨b1, off1, none⟩, sC, fA, fC, rA, rC, mA, mC, lA, lC, iA, iC, uA, uC⟩ m bo (pre8 ++ (m.uT.take k).map (ruleDl m)))) (fun _ i _ => m.uT.length - (intOf i).toNat)
                     case atStart => exact ⟨0, Nat.zero_le _, rfl, HN2⟩
                     case round =>
                      clear HN2 a10 l9
                      obtain ⟨k, hk, rfl, hN⟩ := hrel
                      have l1 := hN.out.mw.lt
                      by_cases hlt : k < m.uT.length
                      · skip
                        obtain ⟨x, hx⟩ : ∃ x, m.uT[k] = x := ⟨_, rfl⟩
                        have hat := (hN.out.mw.md D.out).dU.rule hlt
                        have hRF := rule_fits (ok_rule HVM.out (List.getElem_mem hlt))
                        have hRM := rule_machines (ok_rule HVM.out (List.getElem_mem hlt))
                        have hE := dec_succ pre8 (ruleDl m) m.uT hlt
                        rw [hx] at hat hRF hRM hE
                        have hat : ∃ b off A2 c2, uA = some ⟨b, off, none⟩ ∧ b < wr.heap.size ∧ wr.cell? ⟨b, off + k * 7, none⟩ = some (.int .i64 x.kind) ∧ wr.cell? ⟨b, off + k * 7 + 1, none⟩ = some (.int .i64 x.item) ∧ wr.cell? ⟨b, off + k * 7 + 2, none⟩ = some (.int .i64 x.other) ∧
                            wr.cell? ⟨b, off + k * 7 + 3, none⟩ = some (.int .i64 x.n) ∧ wr.cell? ⟨b, off + k * 7 + 4, none⟩ = some (.int .i64 x.by_) ∧ wr.cell? ⟨b, off + k * 7 + 5, none⟩ = some (.bool x.always) ∧ wr.cell? ⟨b, off + k * 7 + 6, none⟩ = some (.slice A2 x.machines.length c2) ∧
                            x.machines.length ≤ c2 ∧ c2 ≤ 9223372036854775807 ∧ Ints wr wr.heap.size A2 x.machines := hat
                        obtain ⟨b, off, A2, c2, hA, hb, x0, x1, x2, x3, x4, x5, x6, v1, v2, hI⟩ := hat
                        obtain ⟨kd, it, ot, nn, bY, al, ms⟩ := x
                        dsimp only at hRF hRM x0 x1 x2 x3 x4 x5 x6 v1 v2 hI
                        obtain ⟨rl, hrl⟩ : ∃ rl, rl = itNs m [it, ot] ++ ms.map (mchN m) := ⟨_, rfl⟩
                        obtain ⟨nl, hnl⟩ : ∃ nl, nl = numsR ⟨kd, it, ot, nn, bY, al, ms⟩ := ⟨_, rfl⟩
                        have hEI : ruleDl m ⟨kd, it, ot, nn, bY, al, ms⟩ = ⟨10 + kd, ⟨#[]⟩, rl, nl, bY, al⟩ := by unfold ruleDl; rw [hrl, hnl]
                        rw [hEI] at hE
                        have E := hide hE
                        subst hA
                        obtain ⟨r1, r2, r3, r4, r5⟩ := hRF
                        have hm16 : m.mT.length ≤ 16 := by have := HLN.out; omega
                        have HRD := hide (fun W (hd : MD W W.heap.size ⟨some ⟨b1, off1, none⟩, sC, fA, fC, rA, rC, mA, mC, lA, lC, iA, iC, some ⟨b, off, none⟩, uC⟩ m) (hi : Ints W W.heap.size A2 ms) => ruleDecl19 ⟨some ⟨b1, off1, none⟩, sC, fA, fC, rA, rC, mA, mC, lA, lC, iA, iC, some ⟨b, off, none⟩, uC⟩ m ⟨kd, it, ot, nn, bY, al, ms⟩ A2 c2 W hd hi r5 (show ms.length ≤ 1000 by omega) r1 (show kd ≤ 100 by omega) r3 r4)
                        obtain ⟨nMs, hnMs⟩ : ∃ n, n = ms.length := ⟨_, rfl⟩
                        rw [← hnMs] at x6
                        dsimp only at HRD
                        rw [← hnMs] at HRD
                        have HRZ := hide (show ((⟨#[]⟩ : ByteArray).size ≤ 16384 ∧ ∀ r ∈ rl, r.size ≤ 16384) from ⟨by decide, by
                         intro r hr
                         rw [hrl] at hr
                         rcases List.mem_append.1 hr with h0 | h0
                         · unfold itNs at h0
                           obtain ⟨n, _, rfl⟩ := List.mem_map.1 h0
                           exact itN_size HNS.out n
                         · obtain ⟨n, _, rfl⟩ := List.mem_map.1 h0
                           exact mchN_size HNS.out n⟩)
                        obtain ⟨v, L, hb2, ho2, hL2⟩ := hN.out.out
                        have c0 : wr.cell? ⟨bo, 0, none⟩ = some v := hb2.cell 0
                        have cl := hb2.lt
                        obtain ⟨a0, a1, a2, a3, a4, a5, a6, a7, a8, a9, a10⟩ := MB.cells hN.out.mw.blk
                        try dsimp only at a0
                        try dsimp only at a10
                        have HLE := hide (show L.length ≤ 1000 by have h1 := congrArg List.length hL2; have := HL8.out; have := HLN.out; simp at h1; omega)
                        have hbw := ((Below.refl wr.heap.size wr).alloc (Nat.le_refl _) (.cells #[.int .i64 kd, .int .i64 it, .int .i64 ot, .int .i64 nn, .int .i64 bY, .bool al, .slice A2 nMs c2] 62))
                        have HBW := hide hbw
                        have HB := hide (show Blk (wr.alloc (.cells #[.int .i64 kd, .int .i64 it, .int .i64 ot, .int .i64 nn, .int .i64 bY, .bool al, .slice A2 nMs c2] 62)) bo 22 #[v] from hb2.alloc _)
                        have HO := hide (show OutD (bo + 1) (wr.alloc (.cells #[.int .i64 kd, .int .i64 it, .int .i64 ot, .int .i64 nn, .int .i64 bY, .bool al, .slice A2 nMs c2] 62)) v L from ho2.below hbw)
                        have HMW := hide (show MW w w.heap.size (wr.alloc (.cells #[.int .i64 kd, .int .i64 it, .int .i64 ot, .int .i64 nn, .int .i64 bY, .bool al, .slice A2 nMs c2] 62)) ⟨some ⟨b1, off1, none⟩, sC, fA, fC, rA, rC, mA, mC, lA, lC, iA, iC, some ⟨b, off, none⟩, uC⟩ m from hN.out.mw.grow hbw)
                        have HMD := hide (show MD (wr.alloc (.cells #[.int .i64 kd, .int .i64 it, .int .i64 ot, .int .i64 nn, .int .i64 bY, .bool al, .slice A2 nMs c2] 62)).drew (wr.alloc (.cells #[.int .i64 kd, .int .i64 it, .int .i64 ot, .int .i64 nn, .int .i64 bY, .bool al, .slice A2 nMs c2] 62)).drew.heap.size ⟨some ⟨b1, off1, none⟩, sC, fA, fC, rA, rC, mA, mC, lA, lC, iA, iC, some ⟨b, off, none⟩, uC⟩ m from (hN.out.mw.grow hbw.drew).md D.out)
                        have HIR := hide (show Ints (wr.alloc (.cells #[.int .i64 kd, .int .i64 it, .int .i64 ot, .int .i64 nn, .int .i64 bY, .bool al, .slice A2 nMs c2] 62)).drew (wr.alloc (.cells #[.int .i64 kd, .int .i64 it, .int .i64 ot, .int .i64 nn, .int .i64 bY, .bool al, .slice A2 nMs c2] 62)).drew.heap.size A2 ms from hI.grow hbw.drew)
                        have HSB := hide (show bo + 1 ≤ (wr.alloc (.cells #[.int .i64 kd, .int .i64 it, .int .i64 ot, .int .i64 nn, .int .i64 bY, .bool al, .slice A2 nMs c2] 62)).drew.heap.size from Nat.lt_of_lt_of_le hN.out.size hbw.size)
                        have HLL := hide hL2
                        have HLO := hide hN.out.lt
                        have HNU := hide (And.intro hrl hnl)
                        have hkI : (k : Int) < (m.uT.length : Int) := by omega
                        have HLT := hide hlt
                        clear hN hE hx hEI hRM r1 r2 r3 r4 r5 hrl hnl hnMs hb2 ho2 hL2 hbw hI v1 v2 hlt hm16
                        go_upto_region 44 with (fail)
                        go_region_law
                         ((first
                           | (go_simp; go_at_call 38; refine (HRD.out _ HMD.out HIR.out).mono ?_; rintro e2 wy ⟨v5, nv, rfl, hov, hon, hby⟩
                              have hov : OwnS (bo + 1) wy v5 rl := by rw [HNU.out.1]; exact OwnS.lower hov HSB.out
                              have hon : OwnI (bo + 1) wy nv nl := by rw [HNU.out.2]; exact OwnI.lower hon HSB.out
                              obtain ⟨A5, c5, hv5, _, _⟩ := hov.formD
                              obtain ⟨A6, c6, hv6, _, _⟩ := hon.form
                              subst hv5 hv6
                              have HOV := hide hov
                              have HON := hide hon
                              have HBy := hide (HB.out.drew.below hby HB.out.lt)
                              have HOy := hide (OutD.below (w := (wr.alloc (.cells #[.int .i64 kd, .int .i64 it, .int .i64 ot, .int .i64 nn, .int .i64 bY, .bool al, .slice A2 nMs c2] 62)).drew) HO.out hby)
                              have HMy := hide (MW.grow HMW.out.drew hby)
                              have y0 : wy.cell? ⟨bo, 0, none⟩ = some v := HBy.out.cell 0
                              have yl := HBy.out.lt
                              clear hov hon hby
                              dsimp only [cellsRD])
                           | (refine step_append_decls rfl _ _ rfl (bo + 1) v L rfl (World.ownsRow.alloc HOy.out.1 _) _ _ 1 [((⟨10 + kd, ⟨#[]⟩, rl, nl, bY, al⟩ : Decl), .slice A5 rl.length c5, .slice A6 nl.length c6)] rfl (newD wy ⟨10 + kd, ⟨#[]⟩, rl, nl, bY, al⟩ A5 A6 c5 c6 rfl) (by intro y hy; rw [List.mem_singleton.1 hy]; exact ⟨rfl, rfl⟩) (by have := HLE.out; simp; omega) (by have := HBy.out.lt; simp; omega) ?_
                              intro v3 x3 hO3 hg3 _
                              obtain ⟨hd8, q0, ql, qf, A3, n3, c3, hv3⟩ := ds_push (dd := ⟨10 + kd, ⟨#[]⟩, rl, nl, bY, al⟩) (ra := A5) (na := A6) (rc := c5) (nc := c6) HMy.out HLO.out HBy.out HOy.out HOV.out HON.out HRZ.out hO3 hg3
                              rw [HLL.out] at hd8
                              have HD8 := hide hd8
                              clear hO3 hg3 hd8
                              subst hv3)))
                        all_goals
                         go_wp2_with fail
                         go_roundw
                         case rel => exact ⟨k + 1, by have := HLT.out; omega, by have := HLT.out; go_num, by rw [← E.out]; exact HD8⟩
                         case measure => have := HLT.out; simp [intOf]; omega
                      · skip
                        obtain rfl : k = m.uT.length := by omega
                        rw [List.take_length] at hN
                        have HDM := hide (show pre8 ++ m.uT.map (ruleDl m) = declsM m by
                         rw [HP8.out, HP7.out, HP6.out, HP5.out, HP4.out, HP3.out, HP2.out, HP.out]
                         rfl)
                        obtain ⟨v, L, hb2, ho2, hL2⟩ := hN.out.out
                        have c0 : wr.cell? ⟨bo, 0, none⟩ = some v := hb2.cell 0
                        have cl := hb2.lt
                        have HO := hide (OutD.lower ho2 (show w.heap.size ≤ bo + 1 by have := hN.out.lt; omega))
                        have HL := hide (hL2.trans HDM.out)
                        have HB := hide hN.out.mw.b
                        clear hN hb2 ho2 hL2 hlt hk
                        go_wp2_with fail
                        go_ret
                        exact ⟨_, _, rfl, HO.out, HL.out, HB.out⟩
end Go.Proofs.YtcfogipaadhbeaaGreatDoor
