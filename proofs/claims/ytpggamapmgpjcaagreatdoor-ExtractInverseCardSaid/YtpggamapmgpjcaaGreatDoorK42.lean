/- The walks of exodusref26.Choices and exodusref27.Steps at any model. Conditions: lengths that fit memory. The walk of exodusref27.Steps at any model. Conditions: lengths that fit memory. -/
import Derived.Test.YtpggamapmgpjcaaGreatDoorK41
import Derived.Test.YtpggamapmgpjcaaGreatDoorK31

namespace Go.Proofs.YtpggamapmgpjcaaGreatDoor
open Go Go.RowKit Go.Proofs

/-- what a test of a start needs -/
structure RgS (wr : World) (bm : Nat) (M : Array Value) (bc o0 : Nat) (x : MvM) (W : World) : Prop where
  m : Blk W bm 29 M
  c : W.cell? ⟨bc, o0, none⟩ = some (.int .i64 x.1) ∧ W.cell? ⟨bc, o0 + 1, none⟩ = some (.int .i64 x.2.1) ∧ W.cell? ⟨bc, o0 + 2, none⟩ = some (.int .i64 x.2.2)
  lt : bc < wr.heap.size
  b : Below wr.heap.size wr W
theorem RgS.drew {wr : World} {bm : Nat} {M : Array Value} {bc o0 : Nat} {x : MvM} {W : World} (s : RgS wr bm M bc o0 x W) : RgS wr bm M bc o0 x W.drew := ⟨s.m, s.c, s.lt, s.b.drew⟩
theorem RgS.grow {wr : World} {bm : Nat} {M : Array Value} {bc o0 : Nat} {x : MvM} {W W2 : World} (s : RgS wr bm M bc o0 x W) (hb : Below W.heap.size W W2) : RgS wr bm M bc o0 x W2 := by
  have hl := Nat.lt_of_lt_of_le s.lt s.b.size
  exact ⟨s.m.below hb s.m.lt, ⟨(hb.cell (p := ⟨bc, o0, none⟩) hl).trans s.c.1, (hb.cell (p := ⟨bc, o0 + 1, none⟩) hl).trans s.c.2.1, (hb.cell (p := ⟨bc, o0 + 2, none⟩) hl).trans s.c.2.2⟩, s.lt, s.b.trans (hb.mono s.b.size)⟩
theorem RgS.cells {wr : World} {bm : Nat} {h : MH} {m : Mod} {bc o0 : Nat} {x : MvM} {W : World} (s : RgS wr bm #[.slice h.s m.sites.length h.sc, .slice h.f m.feeds.length h.fc, .slice h.r m.racks.length h.rc, .slice h.m m.machs.length h.mc, .slice h.l m.links.length h.lc, .slice h.i m.items.length h.ic, .int .i64 m.dark, .int .i64 m.slots, .int .i64 m.reserve, .int .i64 m.failures, .slice h.u m.rules.length h.uc] bc o0 x W) : (W.cell? ⟨bm, 0, none⟩ = some (.slice h.s m.sites.length h.sc) ∧ W.cell? ⟨bm, 1, none⟩ = some (.slice h.f m.feeds.length h.fc) ∧ W.cell? ⟨bm, 2, none⟩ = some (.slice h.r m.racks.length h.rc) ∧ W.cell? ⟨bm, 3, none⟩ = some (.slice h.m m.machs.length h.mc) ∧ W.cell? ⟨bm, 4, none⟩ = some (.slice h.l m.links.length h.lc) ∧ W.cell? ⟨bm, 5, none⟩ = some (.slice h.i m.items.length h.ic) ∧ W.cell? ⟨bm, 6, none⟩ = some (.int .i64 m.dark) ∧ W.cell? ⟨bm, 7, none⟩ = some (.int .i64 m.slots) ∧ W.cell? ⟨bm, 8, none⟩ = some (.int .i64 m.reserve) ∧ W.cell? ⟨bm, 9, none⟩ = some (.int .i64 m.failures) ∧ W.cell? ⟨bm, 10, none⟩ = some (.slice h.u m.rules.length h.uc)) ∧ (W.cell? ⟨bc, o0, none⟩ = some (.int .i64 x.1) ∧ W.cell? ⟨bc, o0 + 1, none⟩ = some (.int .i64 x.2.1) ∧ W.cell? ⟨bc, o0 + 2, none⟩ = some (.int .i64 x.2.2)) := ⟨MB.cells s.m, s.c⟩
/-- the choices as numbers of moves and starts -/
def ccRow (m : Mod) (j k : Nat) (x : MvM) : List ChM := (chRow m j k x).map (·.1)
theorem ccRow_succ (m : Mod) (j k : Nat) (x : MvM) : ccRow m j (k + 1) x = ccRow m j k x ++ [((j : Int), (k : Int))] := by simp [ccRow, chRow_succ]
set_option maxRecDepth 100000 in
set_option maxHeartbeats 8000000 in
theorem choicesR_yes (h : MH) (m : Mod) (w : World) (d : MD w w.heap.size h m) (hv : validM m = true) (hc : candR m = (candM m, 0)) :
    Calls Tryz.prog 38 #[.agg #[.slice h.s m.sites.length h.sc, .slice h.f m.feeds.length h.fc, .slice h.r m.racks.length h.rc, .slice h.m m.machs.length h.mc, .slice h.l m.links.length h.lc, .slice h.i m.items.length h.ic, .int .i64 m.dark, .int .i64 m.slots, .int .i64 m.reserve, .int .i64 m.failures, .slice h.u m.rules.length h.uc]] w (RdR elCh w (choR m).1 (choR m).2) := by
  have hb := (Below.refl w.heap.size w).alloc (Nat.le_refl _) (.cells #[.slice h.s m.sites.length h.sc, .slice h.f m.feeds.length h.fc, .slice h.r m.racks.length h.rc, .slice h.m m.machs.length h.mc, .slice h.l m.links.length h.lc, .slice h.i m.items.length h.ic, .int .i64 m.dark, .int .i64 m.slots, .int .i64 m.reserve, .int .i64 m.failures, .slice h.u m.rules.length h.uc] 29)
  have HB := hide hb
  have HM0 := hide (Blk.new w 29 #[.slice h.s m.sites.length h.sc, .slice h.f m.feeds.length h.fc, .slice h.r m.racks.length h.rc, .slice h.m m.machs.length h.mc, .slice h.l m.links.length h.lc, .slice h.i m.items.length h.ic, .int .i64 m.dark, .int .i64 m.slots, .int .i64 m.reserve, .int .i64 m.failures, .slice h.u m.rules.length h.uc])
  have HCA := hide (cands_ref h m _ (d.grow hb))
  rw [hc] at HCA
  have HDU := hide (fun (x : MvM) (hx : x ∈ candM m) W (hW : Below w.heap.size w W) => dur_ref h m x W (d.grow hW) hv (cand_fit hx))
  have HDL := hide (fun (x : MvM) (hx : x ∈ candM m) => show 1 ≤ durB m x ∧ durB m x ≤ 2097152 by
    obtain ⟨a, ha, e⟩ := cand_item hx
    obtain ⟨n, f, t⟩ := x
    subst e
    rw [durB_yes ha]
    exact durY_in hv (List.getElem_mem ha) t)
  have HSL := hide (show 1 ≤ m.slots ∧ m.slots ≤ 16 by
    simp only [validM, sizesB, wiI, Bool.and_eq_true, decide_eq_true_eq] at hv
    omega)
  have HLN := hide (And.intro (cand_len hv) (And.intro (ch_len hv) (fun k (hk : k < (candM m).length) (q : Nat) (hq : q ≤ nSt m (candM m)[k]) => show ((chTo m k).map (·.1) ++ ccRow m k q (candM m)[k]).length ≤ 60000 by
    rw [List.length_append, ccRow, List.length_map, List.length_map, chRow_len]
    have h1 := chTo_len hv k (by omega)
    have h2 := nSt_le hv (List.getElem_mem hk)
    have h3 := cand_len hv
    omega)))
  have HR := hide (show choR m = if 400 < (chM m).length then ([], 8) else ((chM m).map (·.1), 0) by rw [choR, hc]; rfl)
  clear hb d hv hc
  dsimp only at HCA
  go_enter Tryz.func38, Tryz.ntmps38
  go_wp2_with (go_at_call 39; refine HCA.out.mono ?_; rintro e w1 ⟨A, c, rfl, hr, hb1⟩
               have HM1 := hide (HM0.out.below hb1 (by simp))
               have HB1 := hide (HB.out.trans (hb1.mono HB.out.size))
               have HRD := hide hr
               clear hb1 hr)
  have HO0 := hide (OwnE_.empty (E := elCh) (B := w1.heap.size) w1 (Nat.le_refl _))
  have HB0 := hide ((Below.refl w1.heap.size w1).alloc (Nat.le_refl _) (.cells #[] 68))
  obtain ⟨n, hn⟩ : ∃ n, n = (candM m).length := ⟨_, rfl⟩
  have hn3 : n ≤ 3000 := by rw [hn]; exact HLN.out.1
  rw [← hn]
  have HN := hide hn
  clear hn
  go_loopw [6, 7] (fun v i wr => ∃ k : Nat, k ≤ n ∧ i = .int .i64 k ∧ Hid (OwnE_ elCh w1.heap.size wr v ((chTo m k).map (·.1))) ∧ Hid (Below w1.heap.size w1 wr)) (fun _ i _ => n - (intOf i).toNat)
  case atStart => exact ⟨0, Nat.zero_le _, rfl, HO0, HB0⟩
  case round =>
    obtain ⟨k, hk, rfl, hO, hbr⟩ := hrel
    clear HO0 HB0
    by_cases hlt : k < n
    · have hkc : k < (candM m).length := by rw [← HN.out]; exact hlt
      obtain ⟨x, hx⟩ : ∃ x, x = (candM m)[k] := ⟨_, rfl⟩
      have hxm : x ∈ candM m := by rw [hx]; exact List.getElem_mem hkc
      have hdl := HDL.out x hxm
      have HNS := hide (show ∀ q : Nat, (q < nSt m x ↔ (q : Int) + durB m x ≤ m.slots) from fun q => by have := hdl; unfold nSt; omega)
      have HRL := hide (show ∀ q : Nat, q ≤ nSt m x → ((chTo m k).map (·.1) ++ ccRow m k q x).length ≤ 60000 from fun q hq => by rw [hx]; exact HLN.out.2.2 k hkc q (by rw [← hx]; exact hq))
      have HSU := hide (show (chTo m (k + 1)).map (·.1) = (chTo m k).map (·.1) ++ ccRow m k (nSt m x) x by rw [chTo_succ m hkc, hx, List.map_append, ccRow])
      have HNM := hide (show nSt m x ≤ 16 by have := hdl; have := HSL.out; unfold nSt; omega)
      have hltI : (k : Int) < (n : Int) := by omega
      have HXM := hide (HDU.out x hxm)
      have HGX := hide (show ∀ W, Below w1.heap.size w1 W → ∃ b off, A = some ⟨b, off, none⟩ ∧ b < W.heap.size ∧ W.cell? ⟨b, off + k * 3, none⟩ = some (.int .i64 x.1) ∧ W.cell? ⟨b, off + k * 3 + 1, none⟩ = some (.int .i64 x.2.1) ∧ W.cell? ⟨b, off + k * 3 + 2, none⟩ = some (.int .i64 x.2.2) from fun W hW => by rw [hx]; exact rd_mv (HRD.out.grow hW) hkc)
      obtain ⟨dd, hdd⟩ : ∃ dd, dd = durB m x := ⟨_, rfl⟩
      rw [← hdd] at HXM HNS hdl
      obtain ⟨bc, oc, hA, _⟩ := HGX.out wr hbr.out
      subst hA
      clear hx hxm hdd hkc
      go_wp2_with fail
      go_loopw [6, 8] (fun v i W => ∃ q : Nat, q ≤ nSt m x ∧ i = .int .i64 q ∧ Hid (OwnE_ elCh w1.heap.size W v ((chTo m k).map (·.1) ++ ccRow m k q x)) ∧ Hid (Below w1.heap.size w1 W)) (fun _ i _ => nSt m x - (intOf i).toNat)
      case atStart => exact ⟨0, Nat.zero_le _, rfl, hide (by rw [show ccRow m k 0 x = [] from rfl, List.append_nil]; exact hO.out), hbr⟩
      case round =>
        obtain ⟨q, hq, rfl, hO2, hb2⟩ := hrel
        obtain ⟨bc', oc', hA, hbc, x0, x1, x2⟩ := HGX.out wr hb2.out
        injection hA with hA
        injection hA with hA1 hA2 _
        subst hA1 hA2
        have HS := hide (show RgS wr w.heap.size #[.slice h.s m.sites.length h.sc, .slice h.f m.feeds.length h.fc, .slice h.r m.racks.length h.rc, .slice h.m m.machs.length h.mc, .slice h.l m.links.length h.lc, .slice h.i m.items.length h.ic, .int .i64 m.dark, .int .i64 m.slots, .int .i64 m.reserve, .int .i64 m.failures, .slice h.u m.rules.length h.uc] bc (oc + k * 3) x wr from ⟨HM1.out.below hb2.out HM1.out.lt, ⟨x0, x1, x2⟩, hbc, Below.refl _ _⟩)
        have hq16 := HNM.out
        have hwq : IntKind.i64.wrap ((q : Int) + dd) = (q : Int) + dd := IntWalk.i64_in _ (by omega)
        have HXW := hide (fun W2 (hW2 : Below wr.heap.size wr W2) => HXM.out W2 (HB1.out.trans ((hb2.out.trans (hW2.mono hb2.out.size)).mono HB1.out.size)))
        clear x0 x1 x2 hbc
        go_wp2_with fail
        go_region_held3 (fun W2 => ((W2.cell? ⟨w.heap.size, 0, none⟩ = some (.slice h.s m.sites.length h.sc) ∧ W2.cell? ⟨w.heap.size, 1, none⟩ = some (.slice h.f m.feeds.length h.fc) ∧ W2.cell? ⟨w.heap.size, 2, none⟩ = some (.slice h.r m.racks.length h.rc) ∧ W2.cell? ⟨w.heap.size, 3, none⟩ = some (.slice h.m m.machs.length h.mc) ∧ W2.cell? ⟨w.heap.size, 4, none⟩ = some (.slice h.l m.links.length h.lc) ∧ W2.cell? ⟨w.heap.size, 5, none⟩ = some (.slice h.i m.items.length h.ic) ∧ W2.cell? ⟨w.heap.size, 6, none⟩ = some (.int .i64 m.dark) ∧ W2.cell? ⟨w.heap.size, 7, none⟩ = some (.int .i64 m.slots) ∧ W2.cell? ⟨w.heap.size, 8, none⟩ = some (.int .i64 m.reserve) ∧ W2.cell? ⟨w.heap.size, 9, none⟩ = some (.int .i64 m.failures) ∧ W2.cell? ⟨w.heap.size, 10, none⟩ = some (.slice h.u m.rules.length h.uc)) ∧ (W2.cell? ⟨bc, oc + k * 3, none⟩ = some (.int .i64 x.1) ∧ W2.cell? ⟨bc, oc + k * 3 + 1, none⟩ = some (.int .i64 x.2.1) ∧ W2.cell? ⟨bc, oc + k * 3 + 2, none⟩ = some (.int .i64 x.2.2))) ∧ RgS wr w.heap.size #[.slice h.s m.sites.length h.sc, .slice h.f m.feeds.length h.fc, .slice h.r m.racks.length h.rc, .slice h.m m.machs.length h.mc, .slice h.l m.links.length h.lc, .slice h.i m.items.length h.ic, .int .i64 m.dark, .int .i64 m.slots, .int .i64 m.reserve, .int .i64 m.failures, .slice h.u m.rules.length h.uc] bc (oc + k * 3) x W2)
          ((with_reducible (first | (go_keep; done) | exact ⟨RgS.cells HS.out.drew, HS.out.drew⟩ | exact ⟨RgS.cells c1, c1⟩)))
          ((first | (go_at_call 60; (with_reducible refine (HXW.out _ (RgS.b HS.out.drew)).mono ?_); rintro e w5 ⟨rfl, hb⟩; have c1 := RgS.grow HS.out.drew hb; clear hb)))
        have HB5 := hide c1.b
        clear c1 HS
        by_cases hlq : q < nSt m x
        · have hcd := (HNS.out q).1 hlq
          have HRQ := hide (HRL.out q (by omega))
          obtain ⟨ll, hll⟩ : ∃ ll, ll = (chTo m k).map (·.1) ++ ccRow m k q x := ⟨_, rfl⟩
          rw [← hll] at hO2 HRQ
          have HLL := hide (show ll ++ [((k : Int), (q : Int))] = (chTo m k).map (·.1) ++ ccRow m k (q + 1) x by rw [hll, ccRow_succ, ← List.append_assoc])
          clear hll
          obtain ⟨A3, c3, rfl, _⟩ := hO2.out.form
          go_wp2_with (at_builtin; refine append_el okCh rfl _ _ rfl w1.heap.size (.slice A3 ll.length c3) ll rfl ((hO2.out.below HB5.out).below ((Below.refl _ _).alloc (Nat.le_refl _) _)) _ _ 1 1 [((k : Int), (q : Int))] rfl (Reads.newE2 (E := elCh) w5 ((k : Int), (q : Int)) rfl) rfl (by have := HRQ.out; simp; omega) (by have := hb2.out.size; have := HB5.out.size; simp; omega) ?_
                       intro v3 w3 ho3 hg3 _
                       have HO3 := hide ho3
                       have hb9 := hb2.out.trans (HB5.out.mono hb2.out.size)
                       have HB3 := hide (Below.ofGrown (hb9.alloc hb9.size (.cells (elCh.f ((k : Int), (q : Int))).toArray elCh.T)) hg3 (by have := hb9.size; simp; omega) (fun k hk => ((hO2.out.below HB5.out).lt k hk).1))
                       clear ho3 hg3 hb9)
          go_roundw
          case rel => exact ⟨q + 1, by omega, by go_num, hide (by rw [← HLL.out]; exact HO3.out), HB3⟩
          case measure => simp [intOf]; omega
        · have hcd : ¬ (q : Int) + dd ≤ m.slots := fun h9 => hlq ((HNS.out q).2 h9)
          obtain rfl : q = nSt m x := by omega
          go_wp2_with fail
          go_roundw
          case rel => exact ⟨k + 1, by omega, by go_num, hide (by rw [HSU.out]; exact hO2.out.below HB5.out), hide (hb2.out.trans (HB5.out.mono hb2.out.size))⟩
          case measure => simp [intOf]; omega
    · obtain rfl : k = n := by omega
      have hO2 := hO.out
      rw [HN.out, show chTo m (candM m).length = chM m from rfl] at hO2
      obtain ⟨A3, c3, e3, hrd3⟩ := hO2.rd
      obtain ⟨q, hq⟩ : ∃ q, q = ((chM m).map (·.1)).length := ⟨_, rfl⟩
      have hq4 : q ≤ 48000 := by rw [hq, List.length_map]; exact HLN.out.2.1
      rw [← hq] at e3
      have HQ := hide hq
      have HQ2 := hide (show q = (chM m).length by rw [hq, List.length_map])
      have HRD3 := hide hrd3
      clear hO2 hrd3 hO hq
      subst e3
      by_cases hbig : 400 < q
      · have hbigI : (400 : Int) < (q : Int) := by omega
        rw [if_pos (by rw [← HQ2.out]; exact hbig)] at HR
        go_wp2_with fail
        go_ret2
        rw [HR.out]
        exact ⟨none, 0, rfl, RdE.nil_, HB1.out.trans (hbr.out.mono HB1.out.size)⟩
      · have hbigI : ¬ (400 : Int) < (q : Int) := by omega
        rw [if_neg (by rw [← HQ2.out]; exact hbig)] at HR
        go_wp2_with fail
        go_ret2
        rw [HR.out]
        exact ⟨A3, c3, by rw [← HQ.out]; rfl, HRD3.out, HB1.out.trans (hbr.out.mono HB1.out.size)⟩
theorem choices_ref (h : MH) (m : Mod) (w : World) (d : MD w w.heap.size h m) :
    Calls Tryz.prog 38 #[.agg #[.slice h.s m.sites.length h.sc, .slice h.f m.feeds.length h.fc, .slice h.r m.racks.length h.rc, .slice h.m m.machs.length h.mc, .slice h.l m.links.length h.lc, .slice h.i m.items.length h.ic, .int .i64 m.dark, .int .i64 m.slots, .int .i64 m.reserve, .int .i64 m.failures, .slice h.u m.rules.length h.uc]] w (RdR elCh w (choR m).1 (choR m).2) := by
  by_cases hc : (candR m).2 = 0
  · have h2 : validM m = true ∧ candR m = (candM m, 0) := by
      unfold candR at hc ⊢
      split at hc
      · simp at hc
      · rename_i h1
        split at hc
        · simp at hc
        · rename_i h3
          rw [if_neg h1, if_neg h3]
          exact ⟨by simpa using h1, rfl⟩
    exact choicesR_yes h m w d h2.1 h2.2
  · rw [show choR m = ([], (candR m).2) by rw [choR, if_pos hc]]
    have hb := (Below.refl w.heap.size w).alloc (Nat.le_refl _) (.cells #[.slice h.s m.sites.length h.sc, .slice h.f m.feeds.length h.fc, .slice h.r m.racks.length h.rc, .slice h.m m.machs.length h.mc, .slice h.l m.links.length h.lc, .slice h.i m.items.length h.ic, .int .i64 m.dark, .int .i64 m.slots, .int .i64 m.reserve, .int .i64 m.failures, .slice h.u m.rules.length h.uc] 29)
    have HB := hide hb
    have HCA := hide (cands_ref h m _ (d.grow hb))
    obtain ⟨q, hq⟩ : ∃ q, q = (candR m).2 := ⟨_, rfl⟩
    rw [← hq] at HCA hc ⊢
    have g : (q != 0) = true := by simpa using hc
    clear hb d hc hq
    go_enter Tryz.func38, Tryz.ntmps38
    go_wp2_with (go_at_call 39; refine HCA.out.mono ?_; rintro e w1 ⟨A, c, rfl, _, hb1⟩; have HB1 := hide (HB.out.trans (hb1.mono HB.out.size)); clear hb1)
    go_ret2
    exact ⟨none, 0, rfl, RdE.nil_, HB1.out⟩
end Go.Proofs.YtpggamapmgpjcaaGreatDoor

namespace Go.Proofs.YtpggamapmgpjcaaGreatDoor
open Go Go.RowKit Go.Proofs

set_option maxRecDepth 100000 in
set_option maxHeartbeats 4000000 in
theorem rsteps_no (h : MH) (m : Mod) (w : World) (d : MD w w.heap.size h m) (hc : (choR m).2 ≠ 0) :
    Calls Tryz.prog 22 #[.agg #[.slice h.s m.sites.length h.sc, .slice h.f m.feeds.length h.fc, .slice h.r m.racks.length h.rc, .slice h.m m.machs.length h.mc, .slice h.l m.links.length h.lc, .slice h.i m.items.length h.ic, .int .i64 m.dark, .int .i64 m.slots, .int .i64 m.reserve, .int .i64 m.failures, .slice h.u m.rules.length h.uc]] w (RdR elSt w (stepsR m).1 (stepsR m).2) := by
  rw [show stepsR m = ([], (choR m).2) by rw [stepsR, if_pos hc]]
  have hb := (Below.refl w.heap.size w).alloc (Nat.le_refl _) (.cells #[.slice h.s m.sites.length h.sc, .slice h.f m.feeds.length h.fc, .slice h.r m.racks.length h.rc, .slice h.m m.machs.length h.mc, .slice h.l m.links.length h.lc, .slice h.i m.items.length h.ic, .int .i64 m.dark, .int .i64 m.slots, .int .i64 m.reserve, .int .i64 m.failures, .slice h.u m.rules.length h.uc] 29)
  have HB := hide hb
  have HCH := hide (choices_ref h m _ (d.grow hb))
  obtain ⟨q, hq⟩ : ∃ q, q = (choR m).2 := ⟨_, rfl⟩
  rw [← hq] at HCH hc ⊢
  have g : (q != 0) = true := by simpa using hc
  clear hb d hc hq
  go_enter Tryz.func22, Tryz.ntmps22
  go_wp2_with (go_at_call 38; refine HCH.out.mono ?_; rintro e w1 ⟨A, c, rfl, _, hb1⟩; have HB1 := hide (HB.out.trans (hb1.mono HB.out.size)); clear hb1)
  go_ret2
  exact ⟨none, 0, rfl, RdE.nil_, HB1.out⟩
set_option maxRecDepth 100000 in
set_option maxHeartbeats 8000000 in
theorem rsteps_yes (h : MH) (m : Mod) (w : World) (d : MD w w.heap.size h m) (hc : (choR m).2 = 0) :
    Calls Tryz.prog 22 #[.agg #[.slice h.s m.sites.length h.sc, .slice h.f m.feeds.length h.fc, .slice h.r m.racks.length h.rc, .slice h.m m.machs.length h.mc, .slice h.l m.links.length h.lc, .slice h.i m.items.length h.ic, .int .i64 m.dark, .int .i64 m.slots, .int .i64 m.reserve, .int .i64 m.failures, .slice h.u m.rules.length h.uc]] w (RdR elSt w (stepsR m).1 (stepsR m).2) := by
  obtain ⟨hv, hcr, hch⟩ := choR_ok hc
  rw [show stepsR m = (stepsM m, 0) by rw [stepsR, if_neg (by simpa using hc)]]
  have hb := (Below.refl w.heap.size w).alloc (Nat.le_refl _) (.cells #[.slice h.s m.sites.length h.sc, .slice h.f m.feeds.length h.fc, .slice h.r m.racks.length h.rc, .slice h.m m.machs.length h.mc, .slice h.l m.links.length h.lc, .slice h.i m.items.length h.ic, .int .i64 m.dark, .int .i64 m.slots, .int .i64 m.reserve, .int .i64 m.failures, .slice h.u m.rules.length h.uc] 29)
  have HB := hide hb
  have HM0 := hide (Blk.new w 29 #[.slice h.s m.sites.length h.sc, .slice h.f m.feeds.length h.fc, .slice h.r m.racks.length h.rc, .slice h.m m.machs.length h.mc, .slice h.l m.links.length h.lc, .slice h.i m.items.length h.ic, .int .i64 m.dark, .int .i64 m.slots, .int .i64 m.reserve, .int .i64 m.failures, .slice h.u m.rules.length h.uc])
  have HCH := hide (choices_ref h m _ (d.grow hb))
  rw [hch] at HCH
  have HCA := hide (fun W (hW : Below w.heap.size w W) => cands_ref h m W (d.grow hW))
  rw [hcr] at HCA
  have HLN := hide (And.intro (cand_len hv) (steps_len hv))
  clear hb d hc hv hcr hch
  dsimp only at HCA HCH
  go_enter Tryz.func22, Tryz.ntmps22
  go_wp2_with (first
    | (go_at_call 38; refine HCH.out.mono ?_; rintro e w1 ⟨A, c, rfl, hr, hb1⟩
       rw [show ((chM m).map (·.1)).length = (stepsM m).length by simp [stepsM]]
       have hm1 := HM0.out.below hb1 (by simp)
       obtain ⟨a0, a1, a2, a3, a4, a5, a6, a7, a8, a9, a10⟩ := MB.cells hm1
       have al := hm1.lt
       have HB1 := hide (HB.out.trans (hb1.mono HB.out.size))
       have HR1 := hide hr
       clear hb1 hm1 hr)
    | (go_at_call 39; refine (HCA.out _ HB1.out).mono ?_; rintro e w2 ⟨A2, c2, rfl, hr2, hb2⟩
       have HB2 := hide (HB1.out.trans (hb2.mono HB1.out.size))
       have HR2 := hide (HR1.out.grow hb2)
       have HRC := hide hr2
       clear hb2 hr2 a0 a1 a2 a3 a4 a5 a6 a7 a8 a9 a10 al))
  obtain ⟨n, hn⟩ : ∃ n, n = (stepsM m).length := ⟨_, rfl⟩
  have hn4 : n ≤ 48000 := by rw [hn]; exact HLN.out.2
  obtain ⟨nc, hnc⟩ : ∃ nc, nc = (candM m).length := ⟨_, rfl⟩
  have hnc3 : nc ≤ 3000 := by rw [hnc]; exact HLN.out.1
  rw [← hn, ← hnc]
  have HN := hide hn
  have HNC := hide hnc
  clear hn hnc
  have HO0 := hide (OwnE_.empty (E := elSt) (B := w2.heap.size) w2 (Nat.le_refl _))
  have HB0 := hide ((Below.refl w2.heap.size w2).alloc (Nat.le_refl _) (.cells #[] 53))
  go_loopw [8, 9] (fun v i wr => ∃ k : Nat, k ≤ n ∧ i = .int .i64 k ∧ Hid (OwnE_ elSt w2.heap.size wr v ((stepsM m).take k)) ∧ Hid (Below w2.heap.size w2 wr)) (fun _ i _ => n - (intOf i).toNat)
  case atStart => exact ⟨0, Nat.zero_le _, rfl, HO0, HB0⟩
  case round =>
    obtain ⟨k, hk, rfl, hO, hbr⟩ := hrel
    clear HO0 HB0
    by_cases hlt : k < n
    · have hks : k < (stepsM m).length := by rw [← HN.out]; exact hlt
      have hkc : k < (chM m).length := by simpa [stepsM] using hks
      have hkm : k < ((chM m).map (·.1)).length := by simpa using hkc
      obtain ⟨bc, oc, hA, hbc, x0, x1⟩ := rd_ch (HR2.out.grow hbr.out) hkm
      obtain ⟨j, s, hj, hs, hx⟩ := mem_ch.1 (List.getElem_mem hkc)
      rw [List.getElem_map, hx] at x0 x1
      dsimp only at x0 x1
      obtain ⟨bm, om, hA2, hbm, y0, y1, y2⟩ := rd_mv (HRC.out.grow hbr.out) hj
      obtain ⟨x, hxx⟩ : ∃ x, x = (candM m)[j] := ⟨_, rfl⟩
      rw [← hxx] at y0 y1 y2
      have HE := hide (show (stepsM m).take k ++ [((s : Int), x)] = (stepsM m).take (k + 1) by
        rw [List.take_succ_eq_append_getElem hks]
        congr 2
        simp only [stepsM, List.getElem_map, hx, hxx])
      have hltI : (k : Int) < (n : Int) := by omega
      have hjI : (j : Int) < (nc : Int) := by rw [HNC.out]; omega
      obtain ⟨ll, hll⟩ : ∃ ll, ll = (stepsM m).take k := ⟨_, rfl⟩
      have HLL := hide (show ll.length ≤ 48000 by rw [hll, List.length_take]; omega)
      rw [← hll] at hO HE
      have HO5 := hO
      have HB5 := hbr
      have hwj : IntKind.i64.wrap (j : Int) = j := IntWalk.i64_in _ (by omega)
      subst hA hA2
      clear hx hxx hll hO hbr hkm hkc hks hs hj
      go_wp2_with fail
      go_region_law
        ((first
          | (refine step_append_el okSt rfl _ _ rfl w2.heap.size u8 ll rfl ((HO5.out.below (Below.refl _ _).drew).below ((Below.refl _ _).alloc (Nat.le_refl _) _)) _ _ 1 1 [((s : Int), x)] rfl (Reads.newE2 (E := elSt) _ ((s : Int), x) (by simp)) rfl (by have := HLL.out; simp; omega) (by have := HB5.out.size; simp; omega) ?_
             intro v3 w3 ho3 hg3 _
             have HO3 := hide ho3
             have HB3 := hide (Below.ofGrown (HB5.out.drew.alloc (by have := HB5.out.size; simp; omega) (.cells (elSt.f ((s : Int), x)).toArray elSt.T)) hg3 (by have := HB5.out.size; simp; omega) (fun k hk => (HO5.out.lt k hk).1))
             clear ho3 hg3)))
      all_goals
        go_wp2_with fail
        go_roundw
        case rel => exact ⟨k + 1, by omega, by go_num, hide (by rw [← HE.out]; exact HO3.out), HB3⟩
        case measure => simp [intOf]; omega
    · obtain rfl : k = n := by omega
      have hO2 := hO.out
      rw [List.take_of_length_le (by rw [← HN.out]; exact Nat.le_refl _)] at hO2
      obtain ⟨A3, c3, e3, hrd3⟩ := hO2.rd
      have HRD3 := hide hrd3
      have HE3 := hide e3
      clear hO2 hrd3 e3
      go_wp2_with fail
      go_ret2
      exact ⟨A3, c3, by rw [HE3.out]; rfl, HRD3.out, HB2.out.trans (hbr.out.mono HB2.out.size)⟩
theorem steps_ref (h : MH) (m : Mod) (w : World) (d : MD w w.heap.size h m) :
    Calls Tryz.prog 22 #[.agg #[.slice h.s m.sites.length h.sc, .slice h.f m.feeds.length h.fc, .slice h.r m.racks.length h.rc, .slice h.m m.machs.length h.mc, .slice h.l m.links.length h.lc, .slice h.i m.items.length h.ic, .int .i64 m.dark, .int .i64 m.slots, .int .i64 m.reserve, .int .i64 m.failures, .slice h.u m.rules.length h.uc]] w (RdR elSt w (stepsR m).1 (stepsR m).2) := by
  by_cases hc : (choR m).2 = 0
  · exact rsteps_yes h m w d hc
  · exact rsteps_no h m w d hc
end Go.Proofs.YtpggamapmgpjcaaGreatDoor
