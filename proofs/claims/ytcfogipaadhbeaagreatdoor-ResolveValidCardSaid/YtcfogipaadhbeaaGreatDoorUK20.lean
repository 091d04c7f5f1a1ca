/- A part of the claim: see its last text. -/
import Derived.Test.YtcfogipaadhbeaaGreatDoorUK16
import Derived.Test.YtcfogipaadhbeaaGreatDoorUK18
import Derived.Test.YtcfogipaadhbeaaGreatDoorUK19
import Derived.Deep.RegionHeld3

set_option maxRecDepth 100000
set_option maxHeartbeats 16000000
namespace Go.Proofs.YtcfogipaadhbeaaGreatDoor
open Go Go.RowKit Go.Proofs
theorem strs_zero19 (w : World) : (zeroValue 25).run Tryz.prog w = .ok (.slice none 0 0) w := by kernel_rfl
def tailA (rc lo : Nat) (ra : Option Addr) : Option Addr := if rc = lo then ra else Option.map (fun x => x.add lo) ra
def listV (kd : Int) (ra : Option Addr) (k rc lo : Nat) : Value := if kd = 5 then .slice ra k rc else if kd = 6 then .slice ra k rc else if kd = 13 then .slice (tailA rc lo ra) (k - lo) (rc - lo) else .slice none 0 0
theorem SlG.at_ {B : Nat} {v : Value} {ks : List (Option Int)} {w : World} (h : SlG B v ks w) : ∃ (L : List WD) (A : Option Addr) (c : Nat), v = .slice A ks.length c ∧ L.length = ks.length ∧ RdE elW w A L ∧ L.map (fun d => d.map (·.2)) = ks ∧ ∀ b k, some (b, k) ∈ L → Blk w b 3 #[.int .i64 k] := by
 obtain ⟨L, h1, h2, h3⟩ := h
 have hl : L.length = ks.length := by have := congrArg List.length h2; simpa using this
 obtain ⟨A, c, e, hr⟩ := h1.rd
 exact ⟨L, A, c, by rw [e, hl], hl, hr, h2, fun b k hm => (h3 b k hm).2⟩
theorem check_prog (br mt : Nat) (l : List Decl) (d : Decl) (ra na : Option Addr) (rc nc : Nat) (w : World) (hv : validD d = true) (hb : w.cell? ⟨br, 0, none⟩ = some (.map (some mt))) (hm : AM keyStr w mt (thL (thgs l l.length))) (hr : Strs w w.heap.size ra d.refs) (hrc : d.refs.length ≤ rc) :
    Calls Tryz.prog 25 #[.pointer (some ⟨br, 0, none⟩), .agg #[.int .i64 d.kind, .string d.name, .slice ra d.refs.length rc, .slice na d.nums.length nc, .int .i64 d.by_, .bool d.always]] w fun e w' => e = .returned (.int .i64 (checkE l d)) ∧ Below w.heap.size w w' := by
 obtain ⟨dcs, hdcs⟩ : ∃ dcs : Array Value, dcs = #[.int .i64 d.kind, .string d.name, .slice ra d.refs.length rc, .slice na d.nums.length nc, .int .i64 d.by_, .bool d.always] := ⟨_, rfl⟩
 obtain ⟨wa, hwa⟩ : ∃ wa, wa = w.alloc (.cells #[.int .i64 d.kind, .string d.name, .slice ra d.refs.length rc, .slice na d.nums.length nc, .int .i64 d.by_, .bool d.always] 43) := ⟨_, rfl⟩
 have hba : Below w.heap.size w wa := by rw [hwa]; exact (Below.refl _ _).alloc (Nat.le_refl _) _
 have HXA := hide (show Blk wa w.heap.size 43 dcs from by rw [hwa, hdcs]; exact Blk.new w _ _)
 have bl : br < w.heap.size := by
  rcases Nat.lt_or_ge br w.heap.size with h | h
  · exact h
  · simp [World.cell?, Array.getElem?_eq_none h] at hb
 have HC := hide (show wa.cell? ⟨br, 0, none⟩ = some (.map (some mt)) ∧ br < wa.heap.size from ⟨(hba.cell (p := ⟨br, 0, none⟩) bl).trans hb, Nat.lt_of_lt_of_le bl hba.size⟩)
 have HM := hide (show AM keyStr wa mt (thL (thgs l l.length)) from hm.keep (hba.block mt hm.lt))
 have HR := hide (show Strs wa wa.heap.size ra d.refs from (hr.below hba).more hba.size)
 have hr17 := vd_refs17 hv
 have HWN := hide (wants_prog d ra na rc nc wa (by omega))
 have HV := hide hv
 have HBA := hide hba
 have HRC := hide hrc
 have HWA := hide hwa
 have HDC := hide hdcs
 clear hwa hba hb hm hr hrc hv hdcs bl
 go_enter Tryz.func25, Tryz.ntmps25
 go_upto_region 1 with (fail)
 rw [show (w.alloc (.cells #[.int .i64 d.kind, .string d.name, .slice ra d.refs.length rc, .slice na d.nums.length nc, .int .i64 d.by_, .bool d.always] 43)) = wa from HWA.out.symm]
 obtain ⟨n, hn⟩ : ∃ n, n = d.refs.length := ⟨_, rfl⟩
 have HN := hide hn
 have z0 : wa.cell? ⟨w.heap.size, 0, none⟩ = some (.int .i64 d.kind) := by rw [HXA.out.cell 0, HDC.out]; rfl
 have z1 : wa.cell? ⟨w.heap.size, 1, none⟩ = some (.string d.name) := by rw [HXA.out.cell 1, HDC.out]; rfl
 have z2 : wa.cell? ⟨w.heap.size, 2, none⟩ = some (.slice ra d.refs.length rc) := by rw [HXA.out.cell 2, HDC.out]; rfl
 have z3 : wa.cell? ⟨w.heap.size, 3, none⟩ = some (.slice na d.nums.length nc) := by rw [HXA.out.cell 3, HDC.out]; rfl
 have z4 : wa.cell? ⟨w.heap.size, 4, none⟩ = some (.int .i64 d.by_) := by rw [HXA.out.cell 4, HDC.out]; rfl
 have z5 : wa.cell? ⟨w.heap.size, 5, none⟩ = some (.bool d.always) := by rw [HXA.out.cell 5, HDC.out]; rfl
 have zl := HXA.out.lt
 clear hn
 go_wp2_with (go_at_call 62; refine HWN.out.mono ?_; rintro e w1 ⟨v, rfl, hS, hb1⟩
              have hS2 : SlG wa.heap.size v (shapesW d.kind d.refs.length) w1 := hS
              obtain ⟨L, A1, c1, rfl, hL, hrd, hks, hbx⟩ := hS2.at_
              rw [shapesW_len (fixed_le HV.out)] at hL ⊢
              have HL := hide (And.intro hL (And.intro hrd (And.intro hks hbx)))
              have HB1 := hide hb1
              clear hS hS2 hL hrd hks hbx hb1)
 rw [← HN.out]
 have HS0 := hide (show refsE l d.kind 0 d.refs = refsE l d.kind 0 (d.refs.drop 0) from rfl)
 have HB0 := hide (Below.refl w1.heap.size w1)
 clear z0 z1 z2 z3 z4 z5 zl
 go_loopw [14] (fun i wr => ∃ k : Nat, k ≤ n ∧ i = .int .i64 k ∧ Hid (refsE l d.kind 0 d.refs = refsE l d.kind k (d.refs.drop k)) ∧ Hid (Below w1.heap.size w1 wr)) (fun i _ => n - (intOf i).toNat)
 case atStart => exact ⟨0, Nat.zero_le _, rfl, HS0, HB0⟩
 case round =>
  clear HS0 HB0
  obtain ⟨k, hk, rfl, hE, hb⟩ := hrel
  rename World => w5
  have HB5 := hide (show Below wa.heap.size wa w5 from HB1.out.trans (hb.out.mono HB1.out.size))
  have HX5 := hide (HXA.out.below HB5.out HXA.out.lt)
  have HBW := hide (HBA.out.trans (HB5.out.mono HBA.out.size))
  by_cases hlt : k < n
  · have hkr : k < d.refs.length := by rw [← HN.out]; exact hlt
    have hltI : (k : Int) < (n : Int) := by omega
    obtain ⟨o, ho1, ho2⟩ := want_at HV.out hkr
    have hLk : k < L.length := by rw [HL.out.1]; exact hkr
    have hsh : (L[k]).map (·.2) = o := by
     have := HL.out.2.2.1
     rw [← this, List.getElem?_map, List.getElem?_eq_getElem hLk] at ho1
     exact Option.some.inj ho1
    obtain ⟨bL, oL, hA1, hbl1, hcl⟩ := HL.out.2.1 k hLk
    have y0 : w5.cell? ⟨bL, oL + k, none⟩ = some (wdV L[k]) := by
     have := hcl 0 _ rfl
     rw [show oL + k * elW.sz + 0 = oL + k by simp [elW]] at this
     exact (hb.out.cell (p := ⟨bL, oL + k, none⟩) hbl1).trans this
    obtain ⟨wd, hwd⟩ : ∃ wd, wd = L[k] := ⟨_, rfl⟩
    have HBXS := hide (fun b j (h : wd = some (b, j)) => (HL.out.2.2.2 b j (by rw [← h, hwd]; exact List.getElem_mem hLk)))
    rw [← hwd] at y0 hsh
    obtain ⟨bs, os, hAs, hsb, x0⟩ := str_at (HR.out.below HB5.out) hkr
    obtain ⟨nm, hnm⟩ : ∃ nm, nm = d.refs[k] := ⟨_, rfl⟩
    have HNE := hide (show nm ≠ ⟨#[]⟩ from by rw [hnm]; exact vd_ref HV.out (List.getElem_mem _))
    rw [← hnm] at x0
    have HNM := hide hnm
    have HO2 := hide ho2
    have HSH := hide hsh
    have c0 := (HB5.out.cell (p := ⟨br, 0, none⟩) HC.out.2).trans HC.out.1
    have cl := Nat.lt_of_lt_of_le HC.out.2 HB5.out.size
    have z2 : w5.cell? ⟨w.heap.size, 2, none⟩ = some (.slice ra d.refs.length rc) := by rw [HX5.out.cell 2, HDC.out]; rfl
    have zl := HX5.out.lt
    rw [← HN.out] at z2
    have hlk := fun (W : World) (hW : W.heap[mt]? = w5.heap[mt]?) => ((HM.out.keep (HB5.out.block mt HM.out.lt)).keep hW).look (P := Tryz.prog) (t := 51) (KT := 9) (E := 89) Tryz.underlying51 Tryz.underlying9 (thing_zero W) nm
    obtain ⟨tk, tn, htk⟩ : ∃ tk tn : Int, (getA (thL (thgs l l.length)) nm).getD (thV (0, 0)) = .agg #[.int .i64 tk, .int .i64 tn] := by
     rw [thL_get]
     cases thGet (thgs l l.length) nm with
     | none => exact ⟨0, 0, rfl⟩
     | some x => exact ⟨x.1, x.2, rfl⟩
    obtain ⟨known, hkn⟩ : ∃ known, known = (getA (thL (thgs l l.length)) nm).isSome := ⟨_, rfl⟩
    have HKN := hide (show (known = false → findD l nm = none) ∧ (known = true → ∃ j, findD l nm = some (tk, j)) from by
     have hf := thGet_find l HNE.out (Nat.le_refl l.length)
     rw [List.take_length] at hf
     rw [hkn, thL_get, ← hf]
     rw [thL_get] at htk
     cases hq : thGet (thgs l l.length) nm with
     | none => exact ⟨fun _ => rfl, fun h => by cases h⟩
     | some x =>
       refine ⟨fun h => (by cases h), fun _ => ⟨x.2, ?_⟩⟩
       rw [hq] at htk
       have h2 : thV x = .agg #[.int .i64 tk, .int .i64 tn] := htk
       have h3 : x.1 = tk := by injection h2 with h2; injection h2 with h2; injection h2 with h2 _; injection h2
       rw [← h3])
    rw [htk, ← hkn] at hlk
    have hlk1 : (Instr.lookup 51 (.map (some mt)) (.string nm) true).run Tryz.prog w5.drew = _ := hlk w5.drew rfl
    have hlk2 : ∀ o, (Instr.lookup 51 (.map (some mt)) (.string nm) true).run Tryz.prog (w5.alloc o).drew = _ := fun o => hlk (w5.alloc o).drew (Below.heap_alloc w5 o _ (Nat.lt_of_lt_of_le HM.out.lt HB5.out.size))
    subst hA1 hAs
    clear hlk hkn htk hnm ho1 ho2 hsh hcl hbl1 hwd hsb
    go_upto_region 4 with (fail)
    go_cut [7, 8] from 20 to 32 (fun u v wx => u = .pointer (some ⟨w5.heap.size, 0, none⟩) ∧ v = .bool known ∧ wx = (w5.alloc (.cells #[.int .i64 tk, .int .i64 tn] 89)).drew)
    case first =>
     go_region_held3 (fun W => W.cell? ⟨br, 0, none⟩ = some (.map (some mt)) ∧ W.cell? ⟨w.heap.size, 2, none⟩ = some (.slice (some ⟨bs, os, none⟩) n rc) ∧ W.cell? ⟨bs, os + k, none⟩ = some (.string nm)) (go_keep) (fail)
     all_goals
      go_wp2_with fail
      go_meet
      case rel => exact ⟨rfl, rfl, rfl⟩
    case rest =>
     obtain ⟨rfl, rfl, hwx⟩ := hcut
     rename World => w6
     have HB56 := hide (show Below w5.heap.size w5 w6 from by rw [hwx]; exact ((Below.refl _ _).alloc (Nat.le_refl _) _).drew)
     have HT6 := hide (show Blk w6 w5.heap.size 89 #[.int .i64 tk, .int .i64 tn] from by rw [hwx]; exact Blk.new w5 _ _)
     have HB16 := hide (hb.out.trans (HB56.out.mono hb.out.size))
     have HBW6 := hide (HBW.out.trans (HB56.out.mono HBW.out.size))
     clear hwx hlk1 hlk2 c0 cl z2 zl x0 y0
     cases known with
     | false =>
       have HF := hide (check_refs (l := l) (d := d) (e := 4) (by rw [hE.out]; exact refs_none hkr (by rw [← HNM.out]; exact HKN.out.1 rfl)) (by decide))
       go_wp2_with fail
       go_ret
       exact ⟨ret_congr (by rw [HF.out]; rfl), HBW6.out⟩
     | true =>
       obtain ⟨j, hj⟩ := HKN.out.2 rfl
       have HJ := hide (show findD l d.refs[k] = some (tk, j) from by rw [← HNM.out]; exact hj)
       have y1 := HT6.out.cell 0
       have yl := HT6.out.lt
       simp at y1
       clear hj
       cases wd with
       | none =>
         have HOK := hide (show decide (sectI tk = 5) = wantB d.kind k tk from by
          have h1 : o = none := HSH.out.symm
          rw [← HO2.out tk, h1]; rfl)
         have HIT := hide (rItem_prog tk w6)
         obtain ⟨q, hq⟩ : ∃ q, q = decide (sectI tk = 5) := ⟨_, rfl⟩
         rw [← hq] at HOK HIT
         clear hq
         dsimp only [wdV, fItem, fEx]
         cases q with
         | false =>
           have HF := hide (check_refs (l := l) (d := d) (e := 7) (by rw [hE.out]; exact refs_bad hkr HJ.out HOK.out.symm) (by decide))
           go_wp2_with (go_at_call 102; refine HIT.out.mono ?_; rintro e w7 ⟨rfl, rfl⟩)
           go_ret
           exact ⟨ret_congr (by rw [HF.out]; rfl), HBW6.out⟩
         | true =>
           have HE2 := hide (hE.out.trans (refs_step hkr HJ.out HOK.out.symm))
           go_wp2_with (go_at_call 102; refine HIT.out.mono ?_; rintro e w7 ⟨rfl, rfl⟩)
           go_roundw
           case rel => exact ⟨k + 1, by omega, by go_num, HE2, HB16⟩
           case measure => simp [intOf]; omega
       | some x =>
         obtain ⟨bq, jq⟩ := x
         have HOK := hide (show decide (tk = jq) = wantB d.kind k tk from by
          have h1 : o = some jq := HSH.out.symm
          rw [← HO2.out tk, h1]; rfl)
         have HIT := hide (rExactly1_prog tk jq bq w6 (((HBXS.out bq jq rfl).below HB16.out (HBXS.out bq jq rfl).lt).cell 0))
         obtain ⟨q, hq⟩ : ∃ q, q = decide (tk = jq) := ⟨_, rfl⟩
         rw [← hq] at HOK HIT
         clear hq
         dsimp only [wdV, fItem, fEx]
         cases q with
         | false =>
           have HF := hide (check_refs (l := l) (d := d) (e := 7) (by rw [hE.out]; exact refs_bad hkr HJ.out HOK.out.symm) (by decide))
           go_wp2_with (go_at_call 161; refine HIT.out.mono ?_; rintro e w7 ⟨rfl, rfl⟩)
           go_ret
           exact ⟨ret_congr (by rw [HF.out]; rfl), HBW6.out⟩
         | true =>
           have HE2 := hide (hE.out.trans (refs_step hkr HJ.out HOK.out.symm))
           go_wp2_with (go_at_call 161; refine HIT.out.mono ?_; rintro e w7 ⟨rfl, rfl⟩)
           go_roundw
           case rel => exact ⟨k + 1, by omega, by go_num, HE2, HB16⟩
           case measure => simp [intOf]; omega
  · obtain rfl : k = n := by omega
    have HE0 := hide (show refsE l d.kind 0 d.refs = 0 from by rw [hE.out, List.drop_of_length_le (by rw [← HN.out]; exact Nat.le_refl _)]; rfl)
    clear hE hk
    have HSK := hide (fun (W : World) (h : Kc w5 W) => (⟨by rw [(h.blk _ _ _ HX5.out).cell 0, HDC.out]; rfl, by rw [(h.blk _ _ _ HX5.out).cell 2, HDC.out, HN.out]; rfl⟩ : W.cell? ⟨w.heap.size, 0, none⟩ = some (.int .i64 d.kind) ∧ W.cell? ⟨w.heap.size, 2, none⟩ = some (.slice ra k rc)))
    have zl := HX5.out.lt
    obtain ⟨lo, hlo⟩ : ∃ lo : Nat, lo = min 1 k := ⟨_, rfl⟩
    have hmin : min (1 : Int) (k : Int) = (lo : Int) := by rw [hlo]; omega
    have hlk : lo ≤ k := by omega
    have hlkI : (lo : Int) ≤ (k : Int) := by omega
    have hrc := HRC.out
    have hkrc : (k : Int) ≤ (rc : Int) := by rw [← HN.out] at hrc; omega
    have hlorc : lo ≤ rc := by rw [← HN.out] at hrc; omega
    have HLO := hide hlo
    obtain ⟨LV, hLV⟩ : ∃ LV : Value, LV = listV d.kind ra k rc lo := ⟨_, rfl⟩
    have HLV := hide hLV
    clear hlo hrc hLV
    go_upto_region 10 with (fail)
    go_cut [9] from 42 to 58 (fun v wx => v = LV ∧ Below w5.heap.size w5 wx)
    case first =>
     refine wp_region_held_drew (S := (fun W => W.cell? ⟨w.heap.size, 0, none⟩ = some (.int .i64 d.kind) ∧ W.cell? ⟨w.heap.size, 2, none⟩ = some (.slice ra k rc))) (by kernel_rfl) (HSK.out _ (Kc.refl _).drew) (fun hHeld => ?_)
     refine wpAnyH_take (i := 1) (oi := _) (v := ?_) rfl (by kernel_rfl) (by kernel_rfl) (by kernel_rfl) (fun _ _ _ h => h) (Or.inl ⟨by rfl, ?_⟩) hHeld ?_
     rotate_left
     · intro W hSw; (try dsimp only at hSw); go_simp; try with_reducible rfl
     simp only [Act.put, List.getElem_toArray, List.getElem_cons_succ, List.getElem_cons_zero, List.setIfInBounds_toArray, List.set_cons_zero, List.set_cons_succ]
     refine wpAnyH_take (i := 2) (oi := _) (v := ?_) rfl (by kernel_rfl) (by kernel_rfl) (by kernel_rfl) (fun _ _ _ h => h) (Or.inl ⟨by rfl, ?_⟩) hHeld ?_
     rotate_left
     · intro W hSw; (try dsimp only at hSw); go_simp; try with_reducible rfl
     simp only [Act.put, List.getElem_toArray, List.getElem_cons_succ, List.getElem_cons_zero, List.setIfInBounds_toArray, List.set_cons_zero, List.set_cons_succ]
     refine wpAnyH_take (i := 4) (oi := _) (v := ?_) rfl (by kernel_rfl) (by kernel_rfl) (by kernel_rfl) (fun _ _ _ h => h) (Or.inl ⟨by rfl, ?_⟩) hHeld ?_
     rotate_left
     · intro W hSw; (try dsimp only at hSw); go_simp; try with_reducible rfl
     simp only [Act.put, List.getElem_toArray, List.getElem_cons_succ, List.getElem_cons_zero, List.setIfInBounds_toArray, List.set_cons_zero, List.set_cons_succ]
     refine wpAnyH_take (i := 5) (oi := _) (v := ?_) rfl (by kernel_rfl) (by kernel_rfl) (by kernel_rfl) (fun _ _ _ h => h) (Or.inl ⟨by rfl, ?_⟩) hHeld ?_
     rotate_left
     · intro W hSw; (try dsimp only at hSw); go_simp; try with_reducible rfl
     simp only [Act.put, List.getElem_toArray, List.getElem_cons_succ, List.getElem_cons_zero, List.setIfInBounds_toArray, List.set_cons_zero, List.set_cons_succ]
     refine wpAnyH_take (i := 7) (oi := _) (v := ?_) rfl (by kernel_rfl) (by kernel_rfl) (by kernel_rfl) (fun _ _ _ h => h) (Or.inl ⟨by rfl, ?_⟩) hHeld ?_
     rotate_left
     · intro W hSw; (try dsimp only at hSw); go_simp; try with_reducible rfl
     simp only [Act.put, List.getElem_toArray, List.getElem_cons_succ, List.getElem_cons_zero, List.setIfInBounds_toArray, List.set_cons_zero, List.set_cons_succ]
     refine wpAnyH_take (i := 8) (oi := _) (v := ?_) rfl (by kernel_rfl) (by kernel_rfl) (by kernel_rfl) (fun _ _ _ h => h) (Or.inl ⟨by rfl, ?_⟩) hHeld ?_
     rotate_left
     · intro W hSw; (try dsimp only at hSw); go_simp; try with_reducible rfl
     simp only [Act.put, List.getElem_toArray, List.getElem_cons_succ, List.getElem_cons_zero, List.setIfInBounds_toArray, List.set_cons_zero, List.set_cons_succ]
     refine wpAnyH_take (i := 9) (oi := _) (v := ?_) rfl (by kernel_rfl) (by kernel_rfl) (by kernel_rfl) (fun _ _ _ h => h) (Or.inl ⟨by rfl, ?_⟩) hHeld ?_
     rotate_left
     · intro W hSw; (try dsimp only at hSw); go_simp; try with_reducible rfl
     simp only [Act.put, List.getElem_toArray, List.getElem_cons_succ, List.getElem_cons_zero, List.setIfInBounds_toArray, List.set_cons_zero, List.set_cons_succ]
     refine wpAnyH_take (i := 10) (oi := _) (v := ?_) rfl (by kernel_rfl) (by kernel_rfl) (by kernel_rfl) (fun _ _ _ h => h) (Or.inl ⟨by rfl, ?_⟩) hHeld ?_
     rotate_left
     · intro W hSw; (try dsimp only at hSw); go_simp; try with_reducible rfl
     simp only [Act.put, List.getElem_toArray, List.getElem_cons_succ, List.getElem_cons_zero, List.setIfInBounds_toArray, List.set_cons_zero, List.set_cons_succ]
     refine wpAnyH_take (i := 11) (oi := _) (v := ?_) rfl (by kernel_rfl) (by kernel_rfl) (by kernel_rfl) (fun _ _ _ h => h) (Or.inl ⟨by rfl, ?_⟩) hHeld ?_
     rotate_left
     · intro W hSw; (try dsimp only at hSw); go_simp; try with_reducible rfl
     simp only [Act.put, List.getElem_toArray, List.getElem_cons_succ, List.getElem_cons_zero, List.setIfInBounds_toArray, List.set_cons_zero, List.set_cons_succ]
     refine wpAnyH_take (i := 12) (oi := _) (v := ?_) rfl (by kernel_rfl) (by kernel_rfl) (by kernel_rfl) (fun _ _ _ h => h) (Or.inl ⟨by rfl, ?_⟩) hHeld ?_
     rotate_left
     · intro W hSw; (try dsimp only at hSw); go_simp; try with_reducible rfl
     simp only [Act.put, List.getElem_toArray, List.getElem_cons_succ, List.getElem_cons_zero, List.setIfInBounds_toArray, List.set_cons_zero, List.set_cons_succ]
     refine wpAnyH_take (i := 13) (oi := _) (v := ?_) rfl (by kernel_rfl) (by kernel_rfl) (by kernel_rfl) (fun _ _ _ h => h) (Or.inl ⟨by rfl, ?_⟩) hHeld ?_
     rotate_left
     · intro W hSw; (try dsimp only at hSw); go_simp; try with_reducible rfl
     simp only [Act.put, List.getElem_toArray, List.getElem_cons_succ, List.getElem_cons_zero, List.setIfInBounds_toArray, List.set_cons_zero, List.set_cons_succ]
     rw [show (if rc = lo then ra else Option.map (fun x => x.add lo) ra) = tailA rc lo ra from rfl]
     refine wpAnyH_take (i := 16) (oi := _) (v := ?_) rfl (by kernel_rfl) (by kernel_rfl) (by kernel_rfl) (fun _ _ _ h => h) (Or.inl ⟨by rfl, ?_⟩) hHeld ?_
     rotate_left
     · intro W hSw; (try dsimp only at hSw); go_simp; try with_reducible rfl
     simp only [Act.put, List.getElem_toArray, List.getElem_cons_succ, List.getElem_cons_zero, List.setIfInBounds_toArray, List.set_cons_zero, List.set_cons_succ]
     refine wpAnyH_take (i := 17) (oi := _) (v := ?_) rfl (by kernel_rfl) (by kernel_rfl) (by kernel_rfl) (fun _ _ _ h => h) (Or.inl ⟨by rfl, ?_⟩) hHeld ?_
     rotate_left
     · intro W hSw; (try dsimp only at hSw); go_simp; try with_reducible rfl
     simp only [Act.put, List.getElem_toArray, List.getElem_cons_succ, List.getElem_cons_zero, List.setIfInBounds_toArray, List.set_cons_zero, List.set_cons_succ]
     refine wpAnyH_ready (rs := [0]) (by kernel_rfl) (by simp) ?_
     refine AllReadyH.cons rfl (fun K hK => ?_) AllReadyH.nil
     rw [if_pos (by rfl)]
     refine st_map rfl rfl ?_
     have hkc0 : Kc w5 (w5.drew.alloc (.map #[] 0)) := Kc.of_below ((Below.refl _ w5).drew.alloc (Nat.le_refl _) _)
     have hbw0 : Below w5.heap.size w5 (w5.drew.alloc (.map #[] 0)) := (Below.refl _ w5).drew.alloc (Nat.le_refl _) _
     have hA0 : AM keyInt (w5.drew.alloc (.map #[] 0)) w5.heap.size [] := AM.new w5.drew
     refine hK.out _ _ (HSK.out _ hkc0) (fun hHeld => ?_)
     clear hK K
     simp only [Act.put, List.setIfInBounds_toArray, List.set_cons_zero, List.set_cons_succ]
     refine wpAnyH_ready (rs := [3, 6, 14]) (by kernel_rfl) (by simp) ?_
     refine AllReadyH.cons rfl (fun K hK => ?_) (AllReadyH.cons rfl (fun K hK => ?_) (AllReadyH.cons rfl (fun K hK => ?_) AllReadyH.nil))
     · rw [if_pos (by rfl)]
       refine wp_insert (k := 5) rfl rfl (r := w5.heap.size) (l := []) rfl hA0 Tryz.underlying98 Tryz.underlying3 (fun es0 c0 hw0 es1 c1 hA => ?_)
       have hA1 : AM keyInt _ w5.heap.size (putA [] 5 (.slice ra k rc)) := hA
       have hkc1 := hkc0.trans (Kc.put (o := .map es1 c1) hw0)
       have hbw1 := hbw0.grown (grownBy_putObj' _ w5.heap.size (.map es1 c1)) hkc0.size (fun g e => by cases e; exact Nat.le_refl _)
       clear hA hw0
       refine hK.out _ _ (HSK.out _ hkc1) (fun hHeld => ?_)
       clear hK K
       refine wpAnyH_ready (rs := [6, 14]) (by kernel_rfl) (by simp) ?_
       refine AllReadyH.cons rfl (fun K hK => ?_) (AllReadyH.cons rfl (fun K hK => ?_) AllReadyH.nil)
       · rw [if_pos (by rfl)]
         refine wp_insert (k := 6) rfl rfl (r := w5.heap.size) (l := (putA [] 5 (.slice ra k rc))) rfl hA1 Tryz.underlying98 Tryz.underlying3 (fun es0 c0 hw0 es1 c1 hA => ?_)
         have hA2 : AM keyInt _ w5.heap.size (putA (putA [] 5 (.slice ra k rc)) 6 (.slice ra k rc)) := hA
         have hkc2 := hkc1.trans (Kc.put (o := .map es1 c1) hw0)
         have hbw2 := hbw1.grown (grownBy_putObj' _ w5.heap.size (.map es1 c1)) hkc1.size (fun g e => by cases e; exact Nat.le_refl _)
         clear hA hw0
         refine hK.out _ _ (HSK.out _ hkc2) (fun hHeld => ?_)
         clear hK K
         refine wpAnyH_ready (rs := [14]) (by kernel_rfl) (by simp) ?_
         refine AllReadyH.cons rfl (fun K hK => ?_) AllReadyH.nil
         · rw [if_pos (by rfl)]
           refine wp_insert (k := 13) rfl rfl (r := w5.heap.size) (l := (putA (putA [] 5 (.slice ra k rc)) 6 (.slice ra k rc))) rfl hA2 Tryz.underlying98 Tryz.underlying3 (fun es0 c0 hw0 es1 c1 hA => ?_)
           have hA3 : AM keyInt _ w5.heap.size (putA (putA (putA [] 5 (.slice ra k rc)) 6 (.slice ra k rc)) 13 (.slice (tailA rc lo ra) (k - lo) (rc - lo))) := hA
           have hkc3 := hkc2.trans (Kc.put (o := .map es1 c1) hw0)
           have hbw3 := hbw2.grown (grownBy_putObj' _ w5.heap.size (.map es1 c1)) hkc2.size (fun g e => by cases e; exact Nat.le_refl _)
           clear hA hw0
           refine hK.out _ _ (HSK.out _ hkc3) (fun hHeld => ?_)
           clear hK K
           refine wpAnyH_take (i := 15) (oi := _) (v := ?_) rfl (by kernel_rfl) (by kernel_rfl) (by kernel_rfl) (fun _ _ _ h => h) (Or.inl ⟨by rfl, ?_⟩) hHeld ?_
           rotate_left
           · intro W hSw; (try dsimp only at hSw); go_simp; try with_reducible rfl
           simp only [Act.put, List.getElem_toArray, List.getElem_cons_succ, List.getElem_cons_zero, List.setIfInBounds_toArray, List.set_cons_zero, List.set_cons_succ]
           have hlook := hA3.look1 (P := Tryz.prog) (t := 98) (KT := 3) (E := 25) Tryz.underlying98 Tryz.underlying3 (strs_zero19 _) d.kind
           rw [show (getA (putA (putA (putA [] 5 (.slice ra k rc)) 6 (.slice ra k rc)) 13 (.slice (tailA rc lo ra) (k - lo) (rc - lo))) d.kind).getD (.slice none 0 0) = LV from by rw [HLV.out]; unfold listV; simp only [getA_put]; (repeat' split) <;> first | rfl | (exfalso; omega)] at hlook
           refine wpAnyH_ready (rs := [18]) (by kernel_rfl) (by simp) ?_
           refine AllReadyH.cons rfl (fun K hK => ?_) AllReadyH.nil
           rw [if_pos (by rfl)]
           refine st_val (u := LV) (look_run (x := .tmp 54) (y := .tmp 56) rfl rfl hlook) rfl ?_
           refine hK.out _ _ (HSK.out _ hkc3) (fun hHeld => ?_)
           clear hK K
           simp only [Act.put, List.setIfInBounds_toArray, List.set_cons_zero, List.set_cons_succ]
           refine wpAnyH_take (i := 19) (oi := _) (v := ?_) rfl (by kernel_rfl) (by kernel_rfl) (by kernel_rfl) (fun _ _ _ h => h) (Or.inl ⟨by rfl, ?_⟩) hHeld ?_
           rotate_left
           · intro W hSw; (try dsimp only at hSw); go_simp; try with_reducible rfl
           simp only [Act.put, List.getElem_toArray, List.getElem_cons_succ, List.getElem_cons_zero, List.setIfInBounds_toArray, List.set_cons_zero, List.set_cons_succ]
           refine wpAnyH_done (by kernel_rfl) ?_ _
           go_wp2_with fail
           go_meet
           case rel => exact ⟨rfl, hbw3⟩
       · rw [if_pos (by rfl)]
         refine wp_insert (k := 13) rfl rfl (r := w5.heap.size) (l := (putA [] 5 (.slice ra k rc))) rfl hA1 Tryz.underlying98 Tryz.underlying3 (fun es0 c0 hw0 es1 c1 hA => ?_)
         have hA2 : AM keyInt _ w5.heap.size (putA (putA [] 5 (.slice ra k rc)) 13 (.slice (tailA rc lo ra) (k - lo) (rc - lo))) := hA
         have hkc2 := hkc1.trans (Kc.put (o := .map es1 c1) hw0)
         have hbw2 := hbw1.grown (grownBy_putObj' _ w5.heap.size (.map es1 c1)) hkc1.size (fun g e => by cases e; exact Nat.le_refl _)
         clear hA hw0
         refine hK.out _ _ (HSK.out _ hkc2) (fun hHeld => ?_)
         clear hK K
         refine wpAnyH_ready (rs := [6]) (by kernel_rfl) (by simp) ?_
         refine AllReadyH.cons rfl (fun K hK => ?_) AllReadyH.nil
         · rw [if_pos (by rfl)]
           refine wp_insert (k := 6) rfl rfl (r := w5.heap.size) (l := (putA (putA [] 5 (.slice ra k rc)) 13 (.slice (tailA rc lo ra) (k - lo) (rc - lo)))) rfl hA2 Tryz.underlying98 Tryz.underlying3 (fun es0 c0 hw0 es1 c1 hA => ?_)
           have hA3 : AM keyInt _ w5.heap.size (putA (putA (putA [] 5 (.slice ra k rc)) 13 (.slice (tailA rc lo ra) (k - lo) (rc - lo))) 6 (.slice ra k rc)) := hA
           have hkc3 := hkc2.trans (Kc.put (o := .map es1 c1) hw0)
           have hbw3 := hbw2.grown (grownBy_putObj' _ w5.heap.size (.map es1 c1)) hkc2.size (fun g e => by cases e; exact Nat.le_refl _)
           clear hA hw0
           refine hK.out _ _ (HSK.out _ hkc3) (fun hHeld => ?_)
           clear hK K
           refine wpAnyH_take (i := 15) (oi := _) (v := ?_) rfl (by kernel_rfl) (by kernel_rfl) (by kernel_rfl) (fun _ _ _ h => h) (Or.inl ⟨by rfl, ?_⟩) hHeld ?_
           rotate_left
           · intro W hSw; (try dsimp only at hSw); go_simp; try with_reducible rfl
           simp only [Act.put, List.getElem_toArray, List.getElem_cons_succ, List.getElem_cons_zero, List.setIfInBounds_toArray, List.set_cons_zero, List.set_cons_succ]
           have hlook := hA3.look1 (P := Tryz.prog) (t := 98) (KT := 3) (E := 25) Tryz.underlying98 Tryz.underlying3 (strs_zero19 _) d.kind
           rw [show (getA (putA (putA (putA [] 5 (.slice ra k rc)) 13 (.slice (tailA rc lo ra) (k - lo) (rc - lo))) 6 (.slice ra k rc)) d.kind).getD (.slice none 0 0) = LV from by rw [HLV.out]; unfold listV; simp only [getA_put]; (repeat' split) <;> first | rfl | (exfalso; omega)] at hlook
           refine wpAnyH_ready (rs := [18]) (by kernel_rfl) (by simp) ?_
           refine AllReadyH.cons rfl (fun K hK => ?_) AllReadyH.nil
           rw [if_pos (by rfl)]
           refine st_val (u := LV) (look_run (x := .tmp 54) (y := .tmp 56) rfl rfl hlook) rfl ?_
           refine hK.out _ _ (HSK.out _ hkc3) (fun hHeld => ?_)
           clear hK K
           simp only [Act.put, List.setIfInBounds_toArray, List.set_cons_zero, List.set_cons_succ]
           refine wpAnyH_take (i := 19) (oi := _) (v := ?_) rfl (by kernel_rfl) (by kernel_rfl) (by kernel_rfl) (fun _ _ _ h => h) (Or.inl ⟨by rfl, ?_⟩) hHeld ?_
           rotate_left
           · intro W hSw; (try dsimp only at hSw); go_simp; try with_reducible rfl
           simp only [Act.put, List.getElem_toArray, List.getElem_cons_succ, List.getElem_cons_zero, List.setIfInBounds_toArray, List.set_cons_zero, List.set_cons_succ]
           refine wpAnyH_done (by kernel_rfl) ?_ _
           go_wp2_with fail
           go_meet
           case rel => exact ⟨rfl, hbw3⟩
     · rw [if_pos (by rfl)]
       refine wp_insert (k := 6) rfl rfl (r := w5.heap.size) (l := []) rfl hA0 Tryz.underlying98 Tryz.underlying3 (fun es0 c0 hw0 es1 c1 hA => ?_)
       have hA1 : AM keyInt _ w5.heap.size (putA [] 6 (.slice ra k rc)) := hA
       have hkc1 := hkc0.trans (Kc.put (o := .map es1 c1) hw0)
       have hbw1 := hbw0.grown (grownBy_putObj' _ w5.heap.size (.map es1 c1)) hkc0.size (fun g e => by cases e; exact Nat.le_refl _)
       clear hA hw0
       refine hK.out _ _ (HSK.out _ hkc1) (fun hHeld => ?_)
       clear hK K
       refine wpAnyH_ready (rs := [3, 14]) (by kernel_rfl) (by simp) ?_
       refine AllReadyH.cons rfl (fun K hK => ?_) (AllReadyH.cons rfl (fun K hK => ?_) AllReadyH.nil)
       · rw [if_pos (by rfl)]
         refine wp_insert (k := 5) rfl rfl (r := w5.heap.size) (l := (putA [] 6 (.slice ra k rc))) rfl hA1 Tryz.underlying98 Tryz.underlying3 (fun es0 c0 hw0 es1 c1 hA => ?_)
         have hA2 : AM keyInt _ w5.heap.size (putA (putA [] 6 (.slice ra k rc)) 5 (.slice ra k rc)) := hA
         have hkc2 := hkc1.trans (Kc.put (o := .map es1 c1) hw0)
         have hbw2 := hbw1.grown (grownBy_putObj' _ w5.heap.size (.map es1 c1)) hkc1.size (fun g e => by cases e; exact Nat.le_refl _)
         clear hA hw0
         refine hK.out _ _ (HSK.out _ hkc2) (fun hHeld => ?_)
         clear hK K
         refine wpAnyH_ready (rs := [14]) (by kernel_rfl) (by simp) ?_
         refine AllReadyH.cons rfl (fun K hK => ?_) AllReadyH.nil
         · rw [if_pos (by rfl)]
           refine wp_insert (k := 13) rfl rfl (r := w5.heap.size) (l := (putA (putA [] 6 (.slice ra k rc)) 5 (.slice ra k rc))) rfl hA2 Tryz.underlying98 Tryz.underlying3 (fun es0 c0 hw0 es1 c1 hA => ?_)
           have hA3 : AM keyInt _ w5.heap.size (putA (putA (putA [] 6 (.slice ra k rc)) 5 (.slice ra k rc)) 13 (.slice (tailA rc lo ra) (k - lo) (rc - lo))) := hA
           have hkc3 := hkc2.trans (Kc.put (o := .map es1 c1) hw0)
           have hbw3 := hbw2.grown (grownBy_putObj' _ w5.heap.size (.map es1 c1)) hkc2.size (fun g e => by cases e; exact Nat.le_refl _)
           clear hA hw0
           refine hK.out _ _ (HSK.out _ hkc3) (fun hHeld => ?_)
           clear hK K
           refine wpAnyH_take (i := 15) (oi := _) (v := ?_) rfl (by kernel_rfl) (by kernel_rfl) (by kernel_rfl) (fun _ _ _ h => h) (Or.inl ⟨by rfl, ?_⟩) hHeld ?_
           rotate_left
           · intro W hSw; (try dsimp only at hSw); go_simp; try with_reducible rfl
           simp only [Act.put, List.getElem_toArray, List.getElem_cons_succ, List.getElem_cons_zero, List.setIfInBounds_toArray, List.set_cons_zero, List.set_cons_succ]
           have hlook := hA3.look1 (P := Tryz.prog) (t := 98) (KT := 3) (E := 25) Tryz.underlying98 Tryz.underlying3 (strs_zero19 _) d.kind
           rw [show (getA (putA (putA (putA [] 6 (.slice ra k rc)) 5 (.slice ra k rc)) 13 (.slice (tailA rc lo ra) (k - lo) (rc - lo))) d.kind).getD (.slice none 0 0) = LV from by rw [HLV.out]; unfold listV; simp only [getA_put]; (repeat' split) <;> first | rfl | (exfalso; omega)] at hlook
           refine wpAnyH_ready (rs := [18]) (by kernel_rfl) (by simp) ?_
           refine AllReadyH.cons rfl (fun K hK => ?_) AllReadyH.nil
           rw [if_pos (by rfl)]
           refine st_val (u := LV) (look_run (x := .tmp 54) (y := .tmp 56) rfl rfl hlook) rfl ?_
           refine hK.out _ _ (HSK.out _ hkc3) (fun hHeld => ?_)
           clear hK K
           simp only [Act.put, List.setIfInBounds_toArray, List.set_cons_zero, List.set_cons_succ]
           refine wpAnyH_take (i := 19) (oi := _) (v := ?_) rfl (by kernel_rfl) (by kernel_rfl) (by kernel_rfl) (fun _ _ _ h => h) (Or.inl ⟨by rfl, ?_⟩) hHeld ?_
           rotate_left
           · intro W hSw; (try dsimp only at hSw); go_simp; try with_reducible rfl
           simp only [Act.put, List.getElem_toArray, List.getElem_cons_succ, List.getElem_cons_zero, List.setIfInBounds_toArray, List.set_cons_zero, List.set_cons_succ]
           refine wpAnyH_done (by kernel_rfl) ?_ _
           go_wp2_with fail
           go_meet
           case rel => exact ⟨rfl, hbw3⟩
       · rw [if_pos (by rfl)]
         refine wp_insert (k := 13) rfl rfl (r := w5.heap.size) (l := (putA [] 6 (.slice ra k rc))) rfl hA1 Tryz.underlying98 Tryz.underlying3 (fun es0 c0 hw0 es1 c1 hA => ?_)
         have hA2 : AM keyInt _ w5.heap.size (putA (putA [] 6 (.slice ra k rc)) 13 (.slice (tailA rc lo ra) (k - lo) (rc - lo))) := hA
         have hkc2 := hkc1.trans (Kc.put (o := .map es1 c1) hw0)
         have hbw2 := hbw1.grown (grownBy_putObj' _ w5.heap.size (.map es1 c1)) hkc1.size (fun g e => by cases e; exact Nat.le_refl _)
         clear hA hw0
         refine hK.out _ _ (HSK.out _ hkc2) (fun hHeld => ?_)
         clear hK K
         refine wpAnyH_ready (rs := [3]) (by kernel_rfl) (by simp) ?_
         refine AllReadyH.cons rfl (fun K hK => ?_) AllReadyH.nil
         · rw [if_pos (by rfl)]
           refine wp_insert (k := 5) rfl rfl (r := w5.heap.size) (l := (putA (putA [] 6 (.slice ra k rc)) 13 (.slice (tailA rc lo ra) (k - lo) (rc - lo)))) rfl hA2 Tryz.underlying98 Tryz.underlying3 (fun es0 c0 hw0 es1 c1 hA => ?_)
           have hA3 : AM keyInt _ w5.heap.size (putA (putA (putA [] 6 (.slice ra k rc)) 13 (.slice (tailA rc lo ra) (k - lo) (rc - lo))) 5 (.slice ra k rc)) := hA
           have hkc3 := hkc2.trans (Kc.put (o := .map es1 c1) hw0)
           have hbw3 := hbw2.grown (grownBy_putObj' _ w5.heap.size (.map es1 c1)) hkc2.size (fun g e => by cases e; exact Nat.le_refl _)
           clear hA hw0
           refine hK.out _ _ (HSK.out _ hkc3) (fun hHeld => ?_)
           clear hK K
           refine wpAnyH_take (i := 15) (oi := _) (v := ?_) rfl (by kernel_rfl) (by kernel_rfl) (by kernel_rfl) (fun _ _ _ h => h) (Or.inl ⟨by rfl, ?_⟩) hHeld ?_
           rotate_left
           · intro W hSw; (try dsimp only at hSw); go_simp; try with_reducible rfl
           simp only [Act.put, List.getElem_toArray, List.getElem_cons_succ, List.getElem_cons_zero, List.setIfInBounds_toArray, List.set_cons_zero, List.set_cons_succ]
           have hlook := hA3.look1 (P := Tryz.prog) (t := 98) (KT := 3) (E := 25) Tryz.underlying98 Tryz.underlying3 (strs_zero19 _) d.kind
           rw [show (getA (putA (putA (putA [] 6 (.slice ra k rc)) 13 (.slice (tailA rc lo ra) (k - lo) (rc - lo))) 5 (.slice ra k rc)) d.kind).getD (.slice none 0 0) = LV from by rw [HLV.out]; unfold listV; simp only [getA_put]; (repeat' split) <;> first | rfl | (exfalso; omega)] at hlook
           refine wpAnyH_ready (rs := [18]) (by kernel_rfl) (by simp) ?_
           refine AllReadyH.cons rfl (fun K hK => ?_) AllReadyH.nil
           rw [if_pos (by rfl)]
           refine st_val (u := LV) (look_run (x := .tmp 54) (y := .tmp 56) rfl rfl hlook) rfl ?_
           refine hK.out _ _ (HSK.out _ hkc3) (fun hHeld => ?_)
           clear hK K
           simp only [Act.put, List.setIfInBounds_toArray, List.set_cons_zero, List.set_cons_succ]
           refine wpAnyH_take (i := 19) (oi := _) (v := ?_) rfl (by kernel_rfl) (by kernel_rfl) (by kernel_rfl) (fun _ _ _ h => h) (Or.inl ⟨by rfl, ?_⟩) hHeld ?_
           rotate_left
           · intro W hSw; (try dsimp only at hSw); go_simp; try with_reducible rfl
           simp only [Act.put, List.getElem_toArray, List.getElem_cons_succ, List.getElem_cons_zero, List.setIfInBounds_toArray, List.set_cons_zero, List.set_cons_succ]
           refine wpAnyH_done (by kernel_rfl) ?_ _
           go_wp2_with fail
           go_meet
           case rel => exact ⟨rfl, hbw3⟩
     · rw [if_pos (by rfl)]
       refine wp_insert (k := 13) rfl rfl (r := w5.heap.size) (l := []) rfl hA0 Tryz.underlying98 Tryz.underlying3 (fun es0 c0 hw0 es1 c1 hA => ?_)
       have hA1 : AM keyInt _ w5.heap.size (putA [] 13 (.slice (tailA rc lo ra) (k - lo) (rc - lo))) := hA
       have hkc1 := hkc0.trans (Kc.put (o := .map es1 c1) hw0)
       have hbw1 := hbw0.grown (grownBy_putObj' _ w5.heap.size (.map es1 c1)) hkc0.size (fun g e => by cases e; exact Nat.le_refl _)
       clear hA hw0
       refine hK.out _ _ (HSK.out _ hkc1) (fun hHeld => ?_)
       clear hK K
       refine wpAnyH_ready (rs := [3, 6]) (by kernel_rfl) (by simp) ?_
       refine AllReadyH.cons rfl (fun K hK => ?_) (AllReadyH.cons rfl (fun K hK => ?_) AllReadyH.nil)
       · rw [if_pos (by rfl)]
         refine wp_insert (k := 5) rfl rfl (r := w5.heap.size) (l := (putA [] 13 (.slice (tailA rc lo ra) (k - lo) (rc - lo)))) rfl hA1 Tryz.underlying98 Tryz.underlying3 (fun es0 c0 hw0 es1 c1 hA => ?_)
         have hA2 : AM keyInt _ w5.heap.size (putA (putA [] 13 (.slice (tailA rc lo ra) (k - lo) (rc - lo))) 5 (.slice ra k rc)) := hA
         have hkc2 := hkc1.trans (Kc.put (o := .map es1 c1) hw0)
         have hbw2 := hbw1.grown (grownBy_putObj' _ w5.heap.size (.map es1 c1)) hkc1.size (fun g e => by cases e; exact Nat.le_refl _)
         clear hA hw0
         refine hK.out _ _ (HSK.out _ hkc2) (fun hHeld => ?_)
         clear hK K
         refine wpAnyH_ready (rs := [6]) (by kernel_rfl) (by simp) ?_
         refine AllReadyH.cons rfl (fun K hK => ?_) AllReadyH.nil
         · rw [if_pos (by rfl)]
           refine wp_insert (k := 6) rfl rfl (r := w5.heap.size) (l := (putA (putA [] 13 (.slice (tailA rc lo ra) (k - lo) (rc - lo))) 5 (.slice ra k rc))) rfl hA2 Tryz.underlying98 Tryz.underlying3 (fun es0 c0 hw0 es1 c1 hA => ?_)
           have hA3 : AM keyInt _ w5.heap.size (putA (putA (putA [] 13 (.slice (tailA rc lo ra) (k - lo) (rc - lo))) 5 (.slice ra k rc)) 6 (.slice ra k rc)) := hA
           have hkc3 := hkc2.trans (Kc.put (o := .map es1 c1) hw0)
           have hbw3 := hbw2.grown (grownBy_putObj' _ w5.heap.size (.map es1 c1)) hkc2.size (fun g e => by cases e; exact Nat.le_refl _)
           clear hA hw0
           refine hK.out _ _ (HSK.out _ hkc3) (fun hHeld => ?_)
           clear hK K
           refine wpAnyH_take (i := 15) (oi := _) (v := ?_) rfl (by kernel_rfl) (by kernel_rfl) (by kernel_rfl) (fun _ _ _ h => h) (Or.inl ⟨by rfl, ?_⟩) hHeld ?_
           rotate_left
           · intro W hSw; (try dsimp only at hSw); go_simp; try with_reducible rfl
           simp only [Act.put, List.getElem_toArray, List.getElem_cons_succ, List.getElem_cons_zero, List.setIfInBounds_toArray, List.set_cons_zero, List.set_cons_succ]
           have hlook := hA3.look1 (P := Tryz.prog) (t := 98) (KT := 3) (E := 25) Tryz.underlying98 Tryz.underlying3 (strs_zero19 _) d.kind
           rw [show (getA (putA (putA (putA [] 13 (.slice (tailA rc lo ra) (k - lo) (rc - lo))) 5 (.slice ra k rc)) 6 (.slice ra k rc)) d.kind).getD (.slice none 0 0) = LV from by rw [HLV.out]; unfold listV; simp only [getA_put]; (repeat' split) <;> first | rfl | (exfalso; omega)] at hlook
           refine wpAnyH_ready (rs := [18]) (by kernel_rfl) (by simp) ?_
           refine AllReadyH.cons rfl (fun K hK => ?_) AllReadyH.nil
           rw [if_pos (by rfl)]
           refine st_val (u := LV) (look_run (x := .tmp 54) (y := .tmp 56) rfl rfl hlook) rfl ?_
           refine hK.out _ _ (HSK.out _ hkc3) (fun hHeld => ?_)
           clear hK K
           simp only [Act.put, List.setIfInBounds_toArray, List.set_cons_zero, List.set_cons_succ]
           refine wpAnyH_take (i := 19) (oi := _) (v := ?_) rfl (by kernel_rfl) (by kernel_rfl) (by kernel_rfl) (fun _ _ _ h => h) (Or.inl ⟨by rfl, ?_⟩) hHeld ?_
           rotate_left
           · intro W hSw; (try dsimp only at hSw); go_simp; try with_reducible rfl
           simp only [Act.put, List.getElem_toArray, List.getElem_cons_succ, List.getElem_cons_zero, List.setIfInBounds_toArray, List.set_cons_zero, List.set_cons_succ]
           refine wpAnyH_done (by kernel_rfl) ?_ _
           go_wp2_with fail
           go_meet
           case rel => exact ⟨rfl, hbw3⟩
       · rw [if_pos (by rfl)]
         refine wp_insert (k := 6) rfl rfl (r := w5.heap.size) (l := (putA [] 13 (.slice (tailA rc lo ra) (k - lo) (rc - lo)))) rfl hA1 Tryz.underlying98 Tryz.underlying3 (fun es0 c0 hw0 es1 c1 hA => ?_)
         have hA2 : AM keyInt _ w5.heap.size (putA (putA [] 13 (.slice (tailA rc lo ra) (k - lo) (rc - lo))) 6 (.slice ra k rc)) := hA
         have hkc2 := hkc1.trans (Kc.put (o := .map es1 c1) hw0)
         have hbw2 := hbw1.grown (grownBy_putObj' _ w5.heap.size (.map es1 c1)) hkc1.size (fun g e => by cases e; exact Nat.le_refl _)
         clear hA hw0
         refine hK.out _ _ (HSK.out _ hkc2) (fun hHeld => ?_)
         clear hK K
         refine wpAnyH_ready (rs := [3]) (by kernel_rfl) (by simp) ?_
         refine AllReadyH.cons rfl (fun K hK => ?_) AllReadyH.nil
         · rw [if_pos (by rfl)]
           refine wp_insert (k := 5) rfl rfl (r := w5.heap.size) (l := (putA (putA [] 13 (.slice (tailA rc lo ra) (k - lo) (rc - lo))) 6 (.slice ra k rc))) rfl hA2 Tryz.underlying98 Tryz.underlying3 (fun es0 c0 hw0 es1 c1 hA => ?_)
           have hA3 : AM keyInt _ w5.heap.size (putA (putA (putA [] 13 (.slice (tailA rc lo ra) (k - lo) (rc - lo))) 6 (.slice ra k rc)) 5 (.slice ra k rc)) := hA
           have hkc3 := hkc2.trans (Kc.put (o := .map es1 c1) hw0)
           have hbw3 := hbw2.grown (grownBy_putObj' _ w5.heap.size (.map es1 c1)) hkc2.size (fun g e => by cases e; exact Nat.le_refl _)
           clear hA hw0
           refine hK.out _ _ (HSK.out _ hkc3) (fun hHeld => ?_)
           clear hK K
           refine wpAnyH_take (i := 15) (oi := _) (v := ?_) rfl (by kernel_rfl) (by kernel_rfl) (by kernel_rfl) (fun _ _ _ h => h) (Or.inl ⟨by rfl, ?_⟩) hHeld ?_
           rotate_left
           · intro W hSw; (try dsimp only at hSw); go_simp; try with_reducible rfl
           simp only [Act.put, List.getElem_toArray, List.getElem_cons_succ, List.getElem_cons_zero, List.setIfInBounds_toArray, List.set_cons_zero, List.set_cons_succ]
           have hlook := hA3.look1 (P := Tryz.prog) (t := 98) (KT := 3) (E := 25) Tryz.underlying98 Tryz.underlying3 (strs_zero19 _) d.kind
           rw [show (getA (putA (putA (putA [] 13 (.slice (tailA rc lo ra) (k - lo) (rc - lo))) 6 (.slice ra k rc)) 5 (.slice ra k rc)) d.kind).getD (.slice none 0 0) = LV from by rw [HLV.out]; unfold listV; simp only [getA_put]; (repeat' split) <;> first | rfl | (exfalso; omega)] at hlook
           refine wpAnyH_ready (rs := [18]) (by kernel_rfl) (by simp) ?_
           refine AllReadyH.cons rfl (fun K hK => ?_) AllReadyH.nil
           rw [if_pos (by rfl)]
           refine st_val (u := LV) (look_run (x := .tmp 54) (y := .tmp 56) rfl rfl hlook) rfl ?_
           refine hK.out _ _ (HSK.out _ hkc3) (fun hHeld => ?_)
           clear hK K
           simp only [Act.put, List.setIfInBounds_toArray, List.set_cons_zero, List.set_cons_succ]
           refine wpAnyH_take (i := 19) (oi := _) (v := ?_) rfl (by kernel_rfl) (by kernel_rfl) (by kernel_rfl) (fun _ _ _ h => h) (Or.inl ⟨by rfl, ?_⟩) hHeld ?_
           rotate_left
           · intro W hSw; (try dsimp only at hSw); go_simp; try with_reducible rfl
           simp only [Act.put, List.getElem_toArray, List.getElem_cons_succ, List.getElem_cons_zero, List.setIfInBounds_toArray, List.set_cons_zero, List.set_cons_succ]
           refine wpAnyH_done (by kernel_rfl) ?_ _
           go_wp2_with fail
           go_meet
           case rel => exact ⟨rfl, hbw3⟩
    case rest =>
     obtain ⟨hv7, hb7⟩ := hcut
     have hv7 := hv7.symm
     subst hv7
     rename World => w7
     have HB57 := hide hb7
     have HBA7 := hide (HB5.out.trans (hb7.mono HB5.out.size))
     have HLS := hide (show ∃ A c, LV = .slice A (listD d).length c ∧ Strs w7 w7.heap.size A (listD d) from by
      have hr7 := (HR.out.below HBA7.out).more HBA7.out.size
      have hn := HN.out
      have hlo := HLO.out
      rw [HLV.out]
      by_cases e5 : d.kind = 5
      · rw [show listV d.kind ra k rc lo = .slice ra k rc from by unfold listV; rw [if_pos e5], show listD d = d.refs from by unfold listD; rw [if_pos (.inl e5)], hn]
        exact ⟨_, _, rfl, hr7⟩
      · by_cases e6 : d.kind = 6
        · rw [show listV d.kind ra k rc lo = .slice ra k rc from by unfold listV; rw [if_neg e5, if_pos e6], show listD d = d.refs from by unfold listD; rw [if_pos (.inr e6)], hn]
          exact ⟨_, _, rfl, hr7⟩
        · have e56 : ¬ (d.kind = 5 ∨ d.kind = 6) := fun h => by rcases h with h | h <;> contradiction
          by_cases e13 : d.kind = 13
          · have h2 := (vd_counts HV.out).1
            rw [e13, show refsLo 13 = 2 from by decide] at h2
            have hl1 : lo = 1 := by omega
            rw [show listV d.kind ra k rc lo = .slice (tailA rc lo ra) (k - lo) (rc - lo) from by unfold listV; rw [if_neg e5, if_neg e6, if_pos e13], show listD d = d.refs.drop 1 from by unfold listD; rw [if_neg e56, if_pos e13], hl1, hn]
            exact ⟨_, _, by rw [List.length_drop]; rfl, strs_tail hr7 HRC.out⟩
          · rw [show listV d.kind ra k rc lo = .slice none 0 0 from by unfold listV; rw [if_neg e5, if_neg e6, if_neg e13], show listD d = [] from by unfold listD; rw [if_neg e56, if_neg e13]]
            exact ⟨none, 0, rfl, ⟨rfl, fun h0 => absurd h0 (by simp)⟩⟩)
     obtain ⟨AL, cL, hLVe, hLs⟩ := HLS.out
     obtain ⟨DL, hDL⟩ : ∃ DL, DL = listD d := ⟨_, rfl⟩
     have HDL := hide hDL
     rw [← hDL] at hLVe hLs
     have hlen17 : DL.length ≤ 17 := by
      rw [hDL]; unfold listD
      split
      · exact hr17
      · split
        · simp; omega
        · simp
     have HLen := hide hlen17
     obtain ⟨nD, hnD⟩ : ∃ nD, nD = DL.length := ⟨_, rfl⟩
     have HND := hide hnD
     rw [← hnD] at hLVe
     have hb8 := (Below.refl w7.heap.size w7).alloc (Nat.le_refl _) (.cells #[.slice AL nD cL] 25)
     have HSO := hide (sortedS w7.heap.size DL AL cL (w7.alloc (.cells #[.slice AL nD cL] 25)) (by omega) (by rw [← hnD]; exact Blk.new w7 _ _) (hLs.grow hb8))
     have HB78 := hide hb8
     have HVA := hide (valuesS_prog AL nD cL w7)
     have HX7 := hide (HX5.out.below HB57.out HX5.out.lt)
     have hBW7 := hide (HBA.out.trans (HBA7.out.mono HBA.out.size))
     have hnI : (nD : Int) ≤ 17 := by omega
     subst hLVe
     clear hb7 hLs hDL hlen17 hnD hb8 hmin hlk hlkI hkrc hlorc zl HLV
     go_upto_region 12 with (first
      | (go_at_call 64; refine HVA.out.mono ?_; rintro e w8 ⟨rfl, rfl⟩)
      | (go_at_call 63; refine HSO.out.mono ?_; rintro e w9 ⟨v9, rfl, ho9, hb9⟩
         have HCO := hide (compact19 _ v9 (sortS DL) w9 ho9 hb9.size (by rw [(sortS_perm DL).length_eq]; have := HLen.out; omega) (sortS_sorted DL))
         have HB9 := hide (HB78.out.trans (hb9.mono HB78.out.size))
         have HB89 := hide hb9
         clear ho9 hb9))
     have z0 : w9.cell? ⟨w.heap.size, 0, none⟩ = some (.int .i64 d.kind) := by
      have hb := HB9.out
      rw [(HX7.out.below hb HX7.out.lt).cell 0, HDC.out]; rfl
     clear z0
     by_cases hnd : DL.Nodup
     · have HNO := hide (show (listD d).Nodup from by rw [← HDL.out]; exact hnd)
       go_upto_region 14 with (go_at_call 65; refine HCO.out.mono ?_; rintro e w10 ⟨A10, n10, c10, rfl, hle, hiff, hb10⟩
                               have hn10 : ¬ (n10 : Int) < (nD : Int) := by
                                have h1 : ¬ n10 < (sortS DL).length := fun h => hiff.1 h ((sortS_perm DL).nodup_iff.2 hnd)
                                rw [(sortS_perm DL).length_eq, ← HND.out] at h1
                                omega
                               have HB10 := hide (HB9.out.trans (hb10.mono (by have := HB78.out.size; exact this)))
                               clear hle hiff hb10)
       have HBW10 := hide (hBW7.out.trans (HB10.out.mono hBW7.out.size))
       have HBA10 := hide (HBA7.out.trans (HB10.out.mono HBA7.out.size))
       have HX10 := hide (HX7.out.below HB10.out HX7.out.lt)
       have z0 : w10.cell? ⟨w.heap.size, 0, none⟩ = some (.int .i64 d.kind) := by rw [HX10.out.cell 0, HDC.out]; rfl
       have z2 : w10.cell? ⟨w.heap.size, 2, none⟩ = some (.slice ra k rc) := by rw [HX10.out.cell 2, HDC.out, HN.out]; rfl
       have zl := HX10.out.lt
       obtain ⟨dk, hdk⟩ : ∃ dk, dk = d.kind := ⟨_, rfl⟩
       have HDK := hide hdk
       rw [← hdk] at z0
       by_cases hkk : d.kind = 4
       · have g4 : (dk == 4) = true := by rw [hdk]; simpa using hkk
         clear hdk
         have hk4 : d.kind = 4 := hkk
         have h2 := vd_counts HV.out
         rw [hk4, show refsLo 4 = 2 from by decide, show refsHi 4 = 2 from by decide] at h2
         have hr2 : d.refs.length = 2 := by omega
         obtain ⟨b0, o0, hA0, _, s0'⟩ := str_at (HR.out.below HBA10.out) (k := 0) (by omega)
         have s0 : w10.cell? ⟨b0, o0, none⟩ = some (.string d.refs[0]) := s0'
         clear s0'
         have s1 : w10.cell? ⟨b0, o0 + 1, none⟩ = some (.string d.refs[1]) := by
          obtain ⟨b1, o1, hA1, _, s1⟩ := str_at (HR.out.below HBA10.out) (k := 1) (by omega)
          rw [hA0] at hA1; cases hA1
          exact s1
         have HSM := hide (show (d.refs[0]? = d.refs[1]?) ↔ d.refs[0] = d.refs[1] from by rw [List.getElem?_eq_getElem (by omega), List.getElem?_eq_getElem (by omega)]; exact ⟨fun h => Option.some.inj h, fun h => by rw [h]⟩)
         obtain ⟨x0, hx0⟩ : ∃ x, x = d.refs[0] := ⟨_, rfl⟩
         obtain ⟨x1, hx1⟩ : ∃ x, x = d.refs[1] := ⟨_, rfl⟩
         rw [← hx0] at s0 HSM
         rw [← hx1] at s1 HSM
         have HHK := hide hk4
         have hkn2 : k = 2 := by have := HN.out; omega
         have hk1 : 1 < k := by omega
         have hk0 : 0 < k := by omega
         have hk1I : (1 : Int) < (k : Int) := by omega
         have hk0I : (0 : Int) < (k : Int) := by omega
         subst hA0
         clear hx0 hx1 h2 hr2 hk4 hkk hkn2
         by_cases hxe : x0 = x1
         · have HF := hide (check_same (l := l) HV.out HE0.out HNO.out (.inl HHK.out) (HSM.out.2 hxe))
           have hxq := toList_beq_true hxe
           clear hxe
           go_wp2_with fail
           go_quiet (fail)
           go_wp2_with fail
           go_ret
           exact ⟨ret_congr (by rw [HF.out]; rfl), below_drawn HBW10.out _⟩
         · have HF := hide (check_fine (l := l) HV.out HE0.out HNO.out (.inr fun h => hxe (HSM.out.1 h)))
           have hxq := toList_beq_false hxe
           clear hxe
           go_wp2_with fail
           go_quiet (fail)
           go_wp2_with fail
           go_ret
           exact ⟨ret_congr (by rw [HF.out]; rfl), below_drawn HBW10.out _⟩
       · by_cases hkk2 : d.kind = 14
         · have g4 : (dk == 4) = false := by rw [hdk]; simpa using hkk
           have g14 : (dk == 14) = true := by rw [hdk]; simpa using hkk2
           clear hdk hkk
           have hkk := hkk2
           clear hkk2
           have hk14 : d.kind = 14 := hkk
           have h2 := vd_counts HV.out
           rw [hk14, show refsLo 14 = 2 from by decide, show refsHi 14 = 2 from by decide] at h2
           have hr2 : d.refs.length = 2 := by omega
           obtain ⟨b0, o0, hA0, _, s0'⟩ := str_at (HR.out.below HBA10.out) (k := 0) (by omega)
           have s0 : w10.cell? ⟨b0, o0, none⟩ = some (.string d.refs[0]) := s0'
           clear s0'
           have s1 : w10.cell? ⟨b0, o0 + 1, none⟩ = some (.string d.refs[1]) := by
            obtain ⟨b1, o1, hA1, _, s1⟩ := str_at (HR.out.below HBA10.out) (k := 1) (by omega)
            rw [hA0] at hA1; cases hA1
            exact s1
           have HSM := hide (show (d.refs[0]? = d.refs[1]?) ↔ d.refs[0] = d.refs[1] from by rw [List.getElem?_eq_getElem (by omega), List.getElem?_eq_getElem (by omega)]; exact ⟨fun h => Option.some.inj h, fun h => by rw [h]⟩)
           obtain ⟨x0, hx0⟩ : ∃ x, x = d.refs[0] := ⟨_, rfl⟩
           obtain ⟨x1, hx1⟩ : ∃ x, x = d.refs[1] := ⟨_, rfl⟩
           rw [← hx0] at s0 HSM
           rw [← hx1] at s1 HSM
           have HHK := hide hk14
           have hkn2 : k = 2 := by have := HN.out; omega
           have hk1 : 1 < k := by omega
           have hk0 : 0 < k := by omega
           have hk1I : (1 : Int) < (k : Int) := by omega
           have hk0I : (0 : Int) < (k : Int) := by omega
           subst hA0
           clear hx0 hx1 h2 hr2 hk14 hkk hkn2
           by_cases hxe : x0 = x1
           · have HF := hide (check_same (l := l) HV.out HE0.out HNO.out (.inr HHK.out) (HSM.out.2 hxe))
             have hxq := toList_beq_true hxe
             clear hxe
             go_wp2_with fail
             go_quiet (fail)
             go_wp2_with fail
             go_ret
             exact ⟨ret_congr (by rw [HF.out]; rfl), below_drawn HBW10.out _⟩
           · have HF := hide (check_fine (l := l) HV.out HE0.out HNO.out (.inr fun h => hxe (HSM.out.1 h)))
             have hxq := toList_beq_false hxe
             clear hxe
             go_wp2_with fail
             go_quiet (fail)
             go_wp2_with fail
             go_ret
             exact ⟨ret_congr (by rw [HF.out]; rfl), below_drawn HBW10.out _⟩
         · have g4 : (dk == 4) = false := by rw [hdk]; simpa using hkk
           have g14 : (dk == 14) = false := by rw [hdk]; simpa using hkk2
           have HF := hide (check_fine (l := l) HV.out HE0.out HNO.out (.inl fun h => by rcases h with h | h <;> contradiction))
           clear hdk hkk hkk2
           go_wp2_with fail
           go_quiet (fail)
           go_wp2_with fail
           go_ret
           exact ⟨ret_congr (by rw [HF.out]; rfl), below_drawn HBW10.out _⟩
     · have HF := hide (check_dup (l := l) HV.out HE0.out (by rw [← HDL.out]; exact hnd))
       go_wp2_with (go_at_call 65; refine HCO.out.mono ?_; rintro e w10 ⟨A10, n10, c10, rfl, hle, hiff, hb10⟩
                    have hn10 : (n10 : Int) < (nD : Int) := by
                     have h1 : n10 < (sortS DL).length := hiff.2 (fun h => hnd ((sortS_perm DL).nodup_iff.1 h))
                     rw [(sortS_perm DL).length_eq, ← HND.out] at h1
                     omega
                    have HB10 := hide (HB9.out.trans (hb10.mono (by have := HB78.out.size; exact this)))
                    clear hle hiff hb10)
       go_ret
       exact ⟨ret_congr (by rw [HF.out]; rfl), hBW7.out.trans (HB10.out.mono hBW7.out.size)⟩
end Go.Proofs.YtcfogipaadhbeaaGreatDoor
