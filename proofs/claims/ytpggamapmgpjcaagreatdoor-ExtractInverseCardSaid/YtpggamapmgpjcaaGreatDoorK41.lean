/- The walks of exodusref23.Valid, Duration and Candidates. Conditions: lengths that fit memory. -/
import Derived.Test.YtpggamapmgpjcaaGreatDoorK40
import Derived.Test.YtpggamapmgpjcaaGreatDoorK30

namespace Go.Proofs.YtpggamapmgpjcaaGreatDoor
open Go Go.RowKit Go.Proofs

set_option maxRecDepth 100000 in
set_option maxHeartbeats 2000000 in
theorem rvalid_ref (h : MH) (m : Mod) (x : MvM) (w : World) (d : MD w w.heap.size h m) :
    Calls Tryz.prog 103 #[.agg #[.slice h.s m.sites.length h.sc, .slice h.f m.feeds.length h.fc, .slice h.r m.racks.length h.rc, .slice h.m m.machs.length h.mc, .slice h.l m.links.length h.lc, .slice h.i m.items.length h.ic, .int .i64 m.dark, .int .i64 m.slots, .int .i64 m.reserve, .int .i64 m.failures, .slice h.u m.rules.length h.uc], .agg #[.int .i64 x.1, .int .i64 x.2.1, .int .i64 x.2.2]] w (AnsB w (.bool (validM m && fitB m x))) := by
  have hs := F2.start w #[.slice h.s m.sites.length h.sc, .slice h.f m.feeds.length h.fc, .slice h.r m.racks.length h.rc, .slice h.m m.machs.length h.mc, .slice h.l m.links.length h.lc, .slice h.i m.items.length h.ic, .int .i64 m.dark, .int .i64 m.slots, .int .i64 m.reserve, .int .i64 m.failures, .slice h.u m.rules.length h.uc] #[.int .i64 x.1, .int .i64 x.2.1, .int .i64 x.2.2]
  have HV := hide (valid15_ref h m _ (d.grow hs.b))
  have HS := hide hs
  cases hv : validM m
  · rw [hv] at HV
    rw [Bool.false_and]
    clear hs d hv
    go_enter Tryz.func103, Tryz.ntmps103
    go_wp2_with (go_at_call 61; refine HV.out.mono ?_; rintro e w1 ⟨rfl, hb1⟩; have HS1 := hide (HS.out.grow hb1); clear hb1)
    go_ret
    exact ⟨rfl, HS1.out.b⟩
  · rw [hv] at HV
    rw [Bool.true_and]
    have HF := hide (fun W (hW : Below w.heap.size w W) => valid23_ref h m x W (d.grow hW) hv)
    obtain ⟨q, hq⟩ : ∃ q, q = fitB m x := ⟨_, rfl⟩
    rw [← hq] at HF ⊢
    clear hs d hv hq
    go_enter Tryz.func103, Tryz.ntmps103
    go_wp2_with (first
      | (go_at_call 61; refine HV.out.mono ?_; rintro e w1 ⟨rfl, hb1⟩
         have hs1 := HS.out.grow hb1
         obtain ⟨a0, a1, a2, a3, a4, a5, a6, a7, a8, a9, a10⟩ := MB.cells hs1.m
         have b0 := hs1.v.cell 0
         have b1 := hs1.v.cell 1
         have b2 := hs1.v.cell 2
         have al := hs1.m.lt
         have bl := hs1.v.lt
         simp at b0 b1 b2 bl
         have HS1 := hide hs1
         clear hb1 hs1)
      | (go_at_call 62; refine (HF.out _ HS1.out.b).mono ?_; rintro e w2 ⟨rfl, hb2⟩; have HS2 := hide (HS1.out.grow hb2); clear hb2))
    go_ret
    exact ⟨ret_congr (by simp), HS2.out.b⟩
set_option maxRecDepth 100000 in
set_option maxHeartbeats 4000000 in
theorem durR_yes (h : MH) (m : Mod) (a : Nat) (f t : Int) (w : World) (d : MD w w.heap.size h m) (hv : validM m = true) (hal : a < m.items.length) (hf : fitB m ((a : Int) + 1, f, t) = true) :
    Calls Tryz.prog 60 #[.agg #[.slice h.s m.sites.length h.sc, .slice h.f m.feeds.length h.fc, .slice h.r m.racks.length h.rc, .slice h.m m.machs.length h.mc, .slice h.l m.links.length h.lc, .slice h.i m.items.length h.ic, .int .i64 m.dark, .int .i64 m.slots, .int .i64 m.reserve, .int .i64 m.failures, .slice h.u m.rules.length h.uc], .agg #[.int .i64 ((a : Int) + 1), .int .i64 f, .int .i64 t]] w (AnsB w (.int .i64 (durY m.items[a] t))) := by
  have hs := F2.start w #[.slice h.s m.sites.length h.sc, .slice h.f m.feeds.length h.fc, .slice h.r m.racks.length h.rc, .slice h.m m.machs.length h.mc, .slice h.l m.links.length h.lc, .slice h.i m.items.length h.ic, .int .i64 m.dark, .int .i64 m.slots, .int .i64 m.reserve, .int .i64 m.failures, .slice h.u m.rules.length h.uc] #[.int .i64 ((a : Int) + 1), .int .i64 f, .int .i64 t]
  have HV := hide (rvalid_ref h m ((a : Int) + 1, f, t) _ (d.grow hs.b))
  rw [hv, hf, Bool.and_true] at HV
  have HS := hide hs
  obtain ⟨s1, _⟩ := valid_sizes hv
  obtain ⟨x, hx⟩ : ∃ x, x = m.items[a] := ⟨_, rfl⟩
  have hxm : x ∈ m.items := by rw [hx]; exact List.getElem_mem hal
  obtain ⟨_, _, _, z1, z2, z3, z4⟩ := valid_itm hv hxm
  obtain ⟨bi, oi, A, c, hA, hb, x0, x1, x2, x3, x4, x5, x6, _, hcl, hcm, gI⟩ := d.dI.item hal
  rw [← hx] at x0 x1 x2 x3 x4 x5 x6 ⊢
  have HX := hide (fun W (hW : Below w.heap.size w W) => And.intro hb (And.intro (hW.cell (p := ⟨bi, oi + a * 7, none⟩) hb |>.trans x0) (And.intro (hW.cell (p := ⟨bi, oi + a * 7 + 1, none⟩) hb |>.trans x1) (And.intro (hW.cell (p := ⟨bi, oi + a * 7 + 2, none⟩) hb |>.trans x2) (And.intro (hW.cell (p := ⟨bi, oi + a * 7 + 3, none⟩) hb |>.trans x3) (And.intro (hW.cell (p := ⟨bi, oi + a * 7 + 4, none⟩) hb |>.trans x4) (And.intro (hW.cell (p := ⟨bi, oi + a * 7 + 5, none⟩) hb |>.trans x5) (hW.cell (p := ⟨bi, oi + a * 7 + 6, none⟩) hb |>.trans x6))))))))
  have haI : (a : Int) < (m.items.length : Int) := by omega
  have hw1 : IntKind.i64.wrap ((a : Int) + 1 - 1) = (a : Int) := by rw [IntWalk.i64_in _ (by omega)]; omega
  have hq0 : 0 ≤ (x.size + x.share - 1) / x.share := Int.ediv_nonneg (by omega) (by omega)
  have hq1 : (x.size + x.share - 1) / x.share ≤ x.size + x.share - 1 := Int.ediv_le_self _ (by omega)
  have e0 : (x.size + x.share - 1).tdiv x.share = (x.size + x.share - 1) / x.share := Int.tdiv_eq_ediv_of_nonneg (by omega)
  have u1 : IntKind.i64.wrap (x.size + x.share) = x.size + x.share := IntWalk.i64_in _ (by omega)
  have u2 : IntKind.i64.wrap (x.size + x.share - 1) = x.size + x.share - 1 := IntWalk.i64_in _ (by omega)
  have u3 : IntKind.i64.wrap ((x.size + x.share - 1) / x.share) = (x.size + x.share - 1) / x.share := IntWalk.i64_in _ (by omega)
  have hnz : ¬ x.share = 0 := by omega
  have hnz2 : (x.share == 0) = false := by simpa using hnz
  have HD := hide (show durY x t = if t = 0 then 1 else max 1 ((x.size + x.share - 1) / x.share) from rfl)
  rw [hA] at HS HV
  have HA := hide hA
  clear hs d hv hf x0 x1 x2 x3 x4 x5 x6 gI hcl hcm hb hA hx hxm
  rw [HA.out]
  by_cases ht : t = 0
  · rw [if_pos ht] at HD
    have g : (t == 0) = true := by simpa using ht
    clear ht
    go_enter Tryz.func60, Tryz.ntmps60
    go_wp2_with (first
      | (go_at_call 103; refine HV.out.mono ?_; rintro e w1 ⟨rfl, hb1⟩
         have hs1 := HS.out.grow hb1
         have a5 := hs1.m.cell 5
         have b0 := hs1.v.cell 0
         have b2 := hs1.v.cell 2
         have al := hs1.m.lt
         have bl := hs1.v.lt
         simp at a5 b0 b2 bl
         obtain ⟨hbi, x0, x1, x2, x3, x4, x5, x6⟩ := HX.out w1 hs1.b
         have hbl := Nat.lt_of_lt_of_le hbi hs1.b.size
         have HB1 := hide hs1.b
         clear hb1 hs1))
    go_ret
    exact ⟨ret_congr (by rw [HD.out]; rfl), HB1.out.alloc HB1.out.size _⟩
  · rw [if_neg ht] at HD
    have g : (t == 0) = false := by simpa using ht
    clear ht
    go_enter Tryz.func60, Tryz.ntmps60
    go_wp2_with (first
      | (go_at_call 103; refine HV.out.mono ?_; rintro e w1 ⟨rfl, hb1⟩
         have hs1 := HS.out.grow hb1
         have a5 := hs1.m.cell 5
         have b0 := hs1.v.cell 0
         have b2 := hs1.v.cell 2
         have al := hs1.m.lt
         have bl := hs1.v.lt
         simp at a5 b0 b2 bl
         obtain ⟨hbi, x0, x1, x2, x3, x4, x5, x6⟩ := HX.out w1 hs1.b
         have hbl := Nat.lt_of_lt_of_le hbi hs1.b.size
         have HB1 := hide hs1.b
         clear hb1 hs1))
    go_ret
    exact ⟨ret_congr (by rw [HD.out]; simp [Int.max_def]; try omega), HB1.out.alloc HB1.out.size _⟩
theorem dur_ref (h : MH) (m : Mod) (x : MvM) (w : World) (d : MD w w.heap.size h m) (hv : validM m = true) (hf : fitB m x = true) :
    Calls Tryz.prog 60 #[.agg #[.slice h.s m.sites.length h.sc, .slice h.f m.feeds.length h.fc, .slice h.r m.racks.length h.rc, .slice h.m m.machs.length h.mc, .slice h.l m.links.length h.lc, .slice h.i m.items.length h.ic, .int .i64 m.dark, .int .i64 m.slots, .int .i64 m.reserve, .int .i64 m.failures, .slice h.u m.rules.length h.uc], .agg #[.int .i64 x.1, .int .i64 x.2.1, .int .i64 x.2.2]] w (AnsB w (.int .i64 (durB m x))) := by
  obtain ⟨n, f, t⟩ := x
  cases he : exI n m.items.length
  · rw [fitB, itemAt_no he] at hf; cases hf
  obtain ⟨a, hal, rfl⟩ := exI_yes he
  rw [durB_yes hal]
  exact durR_yes h m a f t w d hv hal hf
/-- the state of the reference's Candidates -/
structure CdR (w : World) (h : MH) (m : Mod) (v : Value) (l : List MvM) (W : World) : Prop where
  b : Below w.heap.size w W
  mo : Blk W w.heap.size 29 #[.slice h.s m.sites.length h.sc, .slice h.f m.feeds.length h.fc, .slice h.r m.racks.length h.rc, .slice h.m m.machs.length h.mc, .slice h.l m.links.length h.lc, .slice h.i m.items.length h.ic, .int .i64 m.dark, .int .i64 m.slots, .int .i64 m.reserve, .int .i64 m.failures, .slice h.u m.rules.length h.uc]
  o : OwnE_ elMv w.heap.size W v l
theorem CdR.grow {w : World} {h : MH} {m : Mod} {v : Value} {l : List MvM} {W W2 : World} (s : CdR w h m v l W) (hb : Below W.heap.size W W2) : CdR w h m v l W2 := ⟨s.b.trans (hb.mono s.b.size), s.mo.below hb s.mo.lt, s.o.below hb⟩
theorem CdR.put {w : World} {h : MH} {m : Mod} {v v3 : Value} {l l2 : List MvM} {W x3 : World} {o : Obj} (s : CdR w h m v l W) (hO : OwnE_ elMv w.heap.size x3 v3 l2) (hg : (W.alloc o).grownBy x3 v.ownBlock) : CdR w h m v3 l2 x3 := by
  have hm1 := s.mo.alloc o
  have ho1 := s.o.below ((Below.refl W.heap.size W).alloc (Nat.le_refl _) o)
  exact ⟨Below.ofGrown (s.b.alloc s.b.size o) hg (by have := s.b.size; simp; omega) (fun k hk => (ho1.lt k hk).1), hm1.grown hg (fun e => ho1.ne hm1 (by decide) e.symm), hO⟩
set_option maxRecDepth 100000 in
set_option maxHeartbeats 8000000 in
theorem candsR_yes (h : MH) (m : Mod) (w : World) (d : MD w w.heap.size h m) (hv : validM m = true) :
    Calls Tryz.prog 39 #[.agg #[.slice h.s m.sites.length h.sc, .slice h.f m.feeds.length h.fc, .slice h.r m.racks.length h.rc, .slice h.m m.machs.length h.mc, .slice h.l m.links.length h.lc, .slice h.i m.items.length h.ic, .int .i64 m.dark, .int .i64 m.slots, .int .i64 m.reserve, .int .i64 m.failures, .slice h.u m.rules.length h.uc]] w (RdR elMv w (candR m).1 (candR m).2) := by
  have hb := (Below.refl w.heap.size w).alloc (Nat.le_refl _) (.cells #[.slice h.s m.sites.length h.sc, .slice h.f m.feeds.length h.fc, .slice h.r m.racks.length h.rc, .slice h.m m.machs.length h.mc, .slice h.l m.links.length h.lc, .slice h.i m.items.length h.ic, .int .i64 m.dark, .int .i64 m.slots, .int .i64 m.reserve, .int .i64 m.failures, .slice h.u m.rules.length h.uc] 29)
  have HB := hide hb
  have HM0 := hide (Blk.new w 29 #[.slice h.s m.sites.length h.sc, .slice h.f m.feeds.length h.fc, .slice h.r m.racks.length h.rc, .slice h.m m.machs.length h.mc, .slice h.l m.links.length h.lc, .slice h.i m.items.length h.ic, .int .i64 m.dark, .int .i64 m.slots, .int .i64 m.reserve, .int .i64 m.failures, .slice h.u m.rules.length h.uc])
  have HV := hide (valid15_ref h m _ (d.grow hb))
  rw [hv] at HV
  obtain ⟨s1, _, s3, _⟩ := valid_sizes hv
  have HF := hide (fun (x : MvM) W (hW : Below w.heap.size w W) => valid23_ref h m x W (d.grow hW) hv)
  have HC := hide (fun (i f t : Nat) (hi : i < m.items.length) (hf : f < m.machs.length + 1) (ht : t < m.machs.length + 1) => cand_sizes hv (i := i) (f := f) (t := t) (by omega) (by omega) (by omega))
  have HL := hide (cand_len hv)
  have HR := hide (show candR m = if 200 < (candM m).length then ([], 8) else (candM m, 0) by rw [candR, if_neg (by simp [hv])])
  have hil := d.il
  have hml := d.ml
  clear hb d hv
  go_enter Tryz.func39, Tryz.ntmps39
  go_wp2_with (go_at_call 61; refine HV.out.mono ?_; rintro e w1 ⟨rfl, hb1⟩
               have hm1 := HM0.out.below hb1 (by simp)
               have hb2 := (Below.refl w1.heap.size w1).alloc (Nat.le_refl _) (.cells #[] 51)
               have HS2 := hide (show CdR w h m (.slice (some ⟨w1.heap.size, 0, none⟩) 0 0) [] (w1.alloc (.cells #[] 51)) from ⟨(HB.out.trans (hb1.mono HB.out.size)).trans (hb2.mono (by have := HB.out.size; have := hb1.size; simp at *; omega)), hm1.below hb2 hm1.lt, OwnE_.empty (E := elMv) w1 (by have := HB.out.size; have := hb1.size; simp at *; omega)⟩)
               clear hb1 hm1 hb2)
  go_loopw [4, 5] (fun v i wr => ∃ k : Nat, k ≤ m.items.length ∧ i = .int .i64 ((k : Int) + 1) ∧ Hid (CdR w h m v (candTo m k) wr)) (fun _ i _ => m.items.length + 1 - (intOf i).toNat)
  case atStart => exact ⟨0, Nat.zero_le _, rfl, HS2⟩
  case round =>
    obtain ⟨k, hk, rfl, hS⟩ := hrel
    clear HS2
    obtain ⟨a0, a1, a2, a3, a4, a5, a6, a7, a8, a9, a10⟩ := MB.cells hS.out.mo
    have al := hS.out.mo.lt
    by_cases hlt : k < m.items.length
    · have hltI : (k : Int) + 1 ≤ (m.items.length : Int) := by omega
      go_wp2_with fail
      clear a0 a1 a2 a3 a4 a5 a6 a7 a8 a9 a10 al
      go_loopw [4, 6] (fun v i wr => ∃ j : Nat, j ≤ m.machs.length + 1 ∧ i = .int .i64 j ∧ Hid (CdR w h m v (candTo m k ++ rowF m k j) wr)) (fun _ i _ => m.machs.length + 1 - (intOf i).toNat)
      case atStart => exact ⟨0, Nat.zero_le _, rfl, hide (by rw [show rowF m k 0 = [] from rfl, List.append_nil]; exact hS.out)⟩
      case round =>
        obtain ⟨j, hj, rfl, hS2⟩ := hrel
        obtain ⟨a0, a1, a2, a3, a4, a5, a6, a7, a8, a9, a10⟩ := MB.cells hS2.out.mo
        have al := hS2.out.mo.lt
        by_cases hlj : j < m.machs.length + 1
        · have hljI : (j : Int) ≤ (m.machs.length : Int) := by omega
          go_wp2_with fail
          clear a0 a1 a2 a3 a4 a5 a6 a7 a8 a9 a10 al
          go_loopw [4, 7] (fun v i wr => ∃ q : Nat, q ≤ m.machs.length + 1 ∧ i = .int .i64 q ∧ Hid (CdR w h m v (candTo m k ++ (rowF m k j ++ rowT m k j q)) wr)) (fun _ i _ => m.machs.length + 1 - (intOf i).toNat)
          case atStart => exact ⟨0, Nat.zero_le _, rfl, hide (by rw [show rowT m k j 0 = [] from rfl, List.append_nil]; exact hS2.out)⟩
          case round =>
            obtain ⟨q, hq, rfl, hS3⟩ := hrel
            obtain ⟨a0, a1, a2, a3, a4, a5, a6, a7, a8, a9, a10⟩ := MB.cells hS3.out.mo
            have al := hS3.out.mo.lt
            by_cases hlq : q < m.machs.length + 1
            · have hlqI : (q : Int) ≤ (m.machs.length : Int) := by omega
              have hsz := HC.out k j q hlt hlj hlq
              have hsu := rowT_succ m k j q
              have hb5 := (Below.refl wr.heap.size wr).alloc (Nat.le_refl _) (.cells #[.int .i64 ((k : Int) + 1), .int .i64 (j : Int), .int .i64 (q : Int)] 51)
              have hs5 := hS3.out.grow hb5
              have HF5 := hide (HF.out ((k : Int) + 1, (j : Int), (q : Int)) _ hs5.b)
              have HX5 := hide (Blk.new wr 51 #[.int .i64 ((k : Int) + 1), .int .i64 (j : Int), .int .i64 (q : Int)])
              have HS5 := hide hs5
              obtain ⟨ll, hll⟩ : ∃ ll, ll = candTo m k ++ (rowF m k j ++ rowT m k j q) := ⟨_, rfl⟩
              rw [← hll] at HS5 hsz
              have hE := show candTo m k ++ (rowF m k j ++ rowT m k j (q + 1)) = ll ++ if fitB m ((k : Int) + 1, (j : Int), (q : Int)) then [((k : Int) + 1, (j : Int), (q : Int))] else [] by rw [hsu, hll, ← List.append_assoc (rowF m k j), ← List.append_assoc (candTo m k)]
              have HSZ := hide hsz
              clear hS3 hb5 hs5 hll hsu hsz
              dsimp only at HF5
              cases hfit : fitB m ((k : Int) + 1, (j : Int), (q : Int))
              · rw [hfit] at HF5 hE
                simp only [Bool.false_eq_true, if_false, List.append_nil] at hE
                have HE := hide hE
                clear hE hfit
                go_wp2_with (go_at_call 62; refine HF5.out.mono ?_; rintro e w6 ⟨rfl, hb6⟩; have HS6 := hide (HS5.out.grow hb6); clear hb6)
                go_roundw
                case rel => exact ⟨q + 1, by omega, by go_num, hide (by rw [HE.out]; exact HS6.out)⟩
                case measure => simp [intOf]; omega
              · rw [hfit] at HF5 hE
                simp only [if_true] at hE
                have HE := hide hE
                clear hE hfit
                obtain ⟨A3, c3, rfl, _⟩ := HS5.out.o.form
                go_wp2_with (first
                  | (go_at_call 62; refine HF5.out.mono ?_; rintro e w6 ⟨rfl, hb6⟩
                     have HS6 := hide (HS5.out.grow hb6)
                     have hx6 := HX5.out.below hb6 HX5.out.lt
                     have z0 := hx6.cell 0
                     have z1 := hx6.cell 1
                     have z2 := hx6.cell 2
                     have zl := hx6.lt
                     simp at z0 z1 z2
                     clear hb6 hx6 a0 a1 a2 a3 a4 a5 a6 a7 a8 a9 a10 al)
                  | (at_builtin; refine append_el okMv rfl _ _ rfl w.heap.size (.slice A3 ll.length c3) ll rfl (HS6.out.o.below ((Below.refl _ _).alloc (Nat.le_refl _) _)) _ _ 1 1 [((k : Int) + 1, (j : Int), (q : Int))] rfl (Reads.newE2 (E := elMv) w6 ((k : Int) + 1, (j : Int), (q : Int)) rfl) rfl (by have := HSZ.out; simp; omega) (by have := HS6.out.b.size; simp; omega) ?_
                     intro v3 w3 ho3 hg3 _
                     have HS7 := hide (HS6.out.put ho3 hg3)
                     clear ho3 hg3))
                go_roundw
                case rel => exact ⟨q + 1, by omega, by go_num, hide (by rw [HE.out]; exact HS7.out)⟩
                case measure => simp [intOf]; omega
            · have hlqI : ¬ (q : Int) ≤ (m.machs.length : Int) := by omega
              obtain rfl : q = m.machs.length + 1 := by omega
              go_wp2_with fail
              go_roundw
              case rel => exact ⟨j + 1, by omega, by go_num, hide (by rw [rowF_succ]; exact hS3.out)⟩
              case measure => simp [intOf]; omega
        · have hljI : ¬ (j : Int) ≤ (m.machs.length : Int) := by omega
          obtain rfl : j = m.machs.length + 1 := by omega
          go_wp2_with fail
          go_roundw
          case rel => exact ⟨k + 1, by omega, by go_num, hide (by rw [candTo_succ]; exact hS2.out)⟩
          case measure => simp [intOf]; omega
    · have hltI : ¬ (k : Int) + 1 ≤ (m.items.length : Int) := by omega
      obtain rfl : k = m.items.length := by omega
      have hO := hS.out.o
      rw [show candTo m m.items.length = candM m from rfl] at hO
      obtain ⟨A1, c1, e1, hr⟩ := hO.rd
      have HRD := hide hr
      have HBW := hide hS.out.b
      obtain ⟨n, hn⟩ : ∃ n, n = (candM m).length := ⟨_, rfl⟩
      have hn3 : n ≤ 3000 := by rw [hn]; exact HL.out
      rw [← hn] at e1
      have HN := hide hn
      clear hO hr hn hS
      subst e1
      by_cases hbig : 200 < n
      · have hbigI : (200 : Int) < (n : Int) := by omega
        rw [if_pos (by rw [← HN.out]; exact hbig)] at HR
        go_wp2_with fail
        go_ret2
        rw [HR.out]
        exact ⟨none, 0, rfl, RdE.nil_, HBW.out⟩
      · have hbigI : ¬ (200 : Int) < (n : Int) := by omega
        rw [if_neg (by rw [← HN.out]; exact hbig)] at HR
        go_wp2_with fail
        go_ret2
        rw [HR.out]
        exact ⟨A1, c1, by rw [← HN.out]; rfl, HRD.out, HBW.out⟩
set_option maxRecDepth 100000 in
set_option maxHeartbeats 2000000 in
theorem cands_ref (h : MH) (m : Mod) (w : World) (d : MD w w.heap.size h m) :
    Calls Tryz.prog 39 #[.agg #[.slice h.s m.sites.length h.sc, .slice h.f m.feeds.length h.fc, .slice h.r m.racks.length h.rc, .slice h.m m.machs.length h.mc, .slice h.l m.links.length h.lc, .slice h.i m.items.length h.ic, .int .i64 m.dark, .int .i64 m.slots, .int .i64 m.reserve, .int .i64 m.failures, .slice h.u m.rules.length h.uc]] w (RdR elMv w (candR m).1 (candR m).2) := by
  cases hv : validM m
  · have hb := (Below.refl w.heap.size w).alloc (Nat.le_refl _) (.cells #[.slice h.s m.sites.length h.sc, .slice h.f m.feeds.length h.fc, .slice h.r m.racks.length h.rc, .slice h.m m.machs.length h.mc, .slice h.l m.links.length h.lc, .slice h.i m.items.length h.ic, .int .i64 m.dark, .int .i64 m.slots, .int .i64 m.reserve, .int .i64 m.failures, .slice h.u m.rules.length h.uc] 29)
    have HB := hide hb
    have HV := hide (valid15_ref h m _ (d.grow hb))
    rw [hv] at HV
    have HR := hide (show candR m = ([], 1) by rw [candR, if_pos hv])
    clear hb d hv
    go_enter Tryz.func39, Tryz.ntmps39
    go_wp2_with (go_at_call 61; refine HV.out.mono ?_; rintro e w1 ⟨rfl, hb1⟩; have HB1 := hide (HB.out.trans (hb1.mono HB.out.size)); clear hb1)
    go_ret2
    rw [HR.out]
    exact ⟨none, 0, rfl, RdE.nil_, HB1.out⟩
  · exact candsR_yes h m w d hv
end Go.Proofs.YtpggamapmgpjcaaGreatDoor
