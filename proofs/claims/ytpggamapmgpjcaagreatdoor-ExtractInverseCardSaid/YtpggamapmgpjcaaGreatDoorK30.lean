/- The walks of expand.start and Choices at any model. Conditions: lengths that fit memory; the table of spaces. -/
import Derived.Test.YtpggamapmgpjcaaGreatDoorK29
import Derived.Deep.RegionLawGrows

namespace Go.Proofs.YtpggamapmgpjcaaGreatDoor
open Go Go.RowKit Go.Proofs

theorem OwnE_.lower {α : Type} {E : El α} {B B' : Nat} {w : World} {v : Value} {l : List α} (h : OwnE_ E B w v l) (hB : B' ≤ B) : OwnE_ E B' w v l := ⟨h.1, h.2.imp id (fun ⟨g, cap, cur, e, hb, r⟩ => ⟨g, cap, cur, e, Nat.le_trans hB hb, r⟩)⟩
theorem Reads.newE2 {α : Type} {E : El α} (w : World) (x : α) {b : Nat} (hb : b = w.heap.size) : Reads (w.alloc (.cells (E.f x).toArray E.T)) (w.heap.size + 1) E.sz (some ⟨b, 0, none⟩) 1 (elCells E [x]) := by
  subst hb
  exact Reads.newE w x
/-- the cells of a maker -/
def mkC (h : MH) (m : Mod) (A : Option Addr) (n c : Nat) (v : Value) : Array Value := #[.slice h.s m.sites.length h.sc, .slice h.f m.feeds.length h.fc, .slice h.r m.racks.length h.rc, .slice h.m m.machs.length h.mc, .slice h.l m.links.length h.lc, .slice h.i m.items.length h.ic, .int .i64 m.dark, .int .i64 m.slots, .int .i64 m.reserve, .int .i64 m.failures, .slice h.u m.rules.length h.uc, .slice A n c, v, .slice none 0 0]
/-- the state of a maker that collects choices -/
structure SrV (h : MH) (m : Mod) (w1 : World) (A : Option Addr) (n c : Nat) (l : List ChX) (v : Value) (W : World) : Prop where
  b : Below w1.heap.size w1 W
  k : Blk W w1.heap.size 66 (mkC h m A n c v)
  o : OwnE_ elCx w1.heap.size W v l
section
variable {h : MH} {m : Mod} {w1 : World} {A : Option Addr} {n c : Nat} {l : List ChX} {v : Value} {W : World}
theorem SrV.grow {W2 : World} (s : SrV h m w1 A n c l v W) (hb : Below W.heap.size W W2) : SrV h m w1 A n c l v W2 := ⟨s.b.trans (hb.mono s.b.size), s.k.below hb s.k.lt, s.o.below hb⟩
theorem SrV.c12 (s : SrV h m w1 A n c l v W) : W.cell? ⟨w1.heap.size, 12, none⟩ = some v := s.k.cell 12
theorem SrV.c3 {o : Obj} {x3 : World} (s : SrV h m w1 A n c l v W) (hg : (W.alloc o).grownBy x3 v.ownBlock) : x3.cell? ⟨w1.heap.size, 12, none⟩ = some v ∧ w1.heap.size < x3.heap.size ∧ x3.frozen? ⟨w1.heap.size, 12, none⟩ = false := by
  have hk1 := s.k.alloc o
  have ho1 := s.o.below ((Below.refl W.heap.size W).alloc (Nat.le_refl _) o)
  have hk3 := hk1.grown hg (fun e => ho1.ne hk1 (by decide) e.symm)
  exact ⟨hk3.cell 12, hk3.lt, hk3.frozen 12⟩
theorem SrV.put {o : Obj} {x3 : World} {l2 : List ChX} {v3 : Value} (s : SrV h m w1 A n c l v W) (hO : OwnE_ elCx w1.heap.size x3 v3 l2) (hg : (W.alloc o).grownBy x3 v.ownBlock) : SrV h m w1 A n c l2 v3 (x3.setCell ⟨w1.heap.size, 12, none⟩ v3) := by
  have hk1 := s.k.alloc o
  have ho1 := s.o.below ((Below.refl W.heap.size W).alloc (Nat.le_refl _) o)
  have hk3 := hk1.grown hg (fun e => ho1.ne hk1 (by decide) e.symm)
  have hb := Below.ofGrown (s.b.alloc s.b.size o) hg (by have := s.b.size; simp; omega) (fun k hk => (ho1.lt k hk).1)
  exact ⟨hb.setCell (Nat.le_refl _) _, hk3.set_ 12 v3, hO.keepB (fun g cur e hB => hB.far (fun e2 => hO.ne hk3 (by decide) (by rw [e]; simp only at e2; rw [e2])) _)⟩
theorem SrV.other {o : Obj} {x3 : World} {g : Nat} {T : TypeId} {cs : Array Value} {u : Value} (s : SrV h m w1 A n c l v W) (hX : Blk W g T cs) (hT : T ≠ 70) (hne : g ≠ w1.heap.size) (hg : (W.alloc o).grownBy x3 v.ownBlock) : Blk (x3.setCell ⟨w1.heap.size, 12, none⟩ u) g T cs := by
  have hx1 := hX.alloc o
  have ho1 := s.o.below ((Below.refl W.heap.size W).alloc (Nat.le_refl _) o)
  exact (hx1.grown hg (fun e => ho1.ne hx1 hT e.symm)).far (by simpa using hne) _
end
/-- what start answers for a valid model with not too many moves -/
def StR (h : MH) (m : Mod) (w : World) (e : Ending) (w' : World) : Prop := Below w.heap.size w w' ∧ (if 400 < (chM m).length then e = .returned (.tuple #[.pointer none, .int .i64 8]) else ∃ bk A c v, e = .returned (.tuple #[.pointer (some ⟨bk, 0, none⟩), .int .i64 0]) ∧ Blk w' bk 66 (mkC h m A (candM m).length c v) ∧ RdE elMv w' A (candM m) ∧ OwnE_ elCx w.heap.size w' v (chM m))
set_option maxRecDepth 100000 in
set_option maxHeartbeats 8000000 in
theorem start_yes (h : MH) (m : Mod) (w : World) (d : MD w w.heap.size h m) (k1 : m.racks.length ≤ h.rc) (k2 : m.machs.length ≤ h.mc) (k3 : m.links.length ≤ h.lc) (ha : Asc w) (hv : validM m = true) (hc : (candR m) = (candM m, 0)) :
    Calls Tryz.prog 24 #[.agg #[.slice h.s m.sites.length h.sc, .slice h.f m.feeds.length h.fc, .slice h.r m.racks.length h.rc, .slice h.m m.machs.length h.mc, .slice h.l m.links.length h.lc, .slice h.i m.items.length h.ic, .int .i64 m.dark, .int .i64 m.slots, .int .i64 m.reserve, .int .i64 m.failures, .slice h.u m.rules.length h.uc]] w (StR h m w) := by
  have hb := (Below.refl w.heap.size w).alloc (Nat.le_refl _) (.cells #[.slice h.s m.sites.length h.sc, .slice h.f m.feeds.length h.fc, .slice h.r m.racks.length h.rc, .slice h.m m.machs.length h.mc, .slice h.l m.links.length h.lc, .slice h.i m.items.length h.ic, .int .i64 m.dark, .int .i64 m.slots, .int .i64 m.reserve, .int .i64 m.failures, .slice h.u m.rules.length h.uc] 29)
  have HB := hide hb
  have HM0 := hide (Blk.new w 29 #[.slice h.s m.sites.length h.sc, .slice h.f m.feeds.length h.fc, .slice h.r m.racks.length h.rc, .slice h.m m.machs.length h.mc, .slice h.l m.links.length h.lc, .slice h.i m.items.length h.ic, .int .i64 m.dark, .int .i64 m.slots, .int .i64 m.reserve, .int .i64 m.failures, .slice h.u m.rules.length h.uc])
  have HCA := hide (cands_prog h m _ (d.grow hb) k1 k2 k3 (ha.below (Nat.le_refl _) hb))
  rw [hc] at HCA
  have HDU := hide (fun (x : MvM) (hx : x ∈ candM m) W (hW : Below w.heap.size w W) => dur_prog h m x W (d.grow hW) k1 k2 k3 (ha.below (Nat.le_refl _) hW) hv (cand_fit hx))
  have HDL := hide (fun (x : MvM) (hx : x ∈ candM m) => show 1 ≤ durB m x ∧ durB m x ≤ 2097152 by
    obtain ⟨a, ha, e⟩ := cand_item hx
    obtain ⟨n, f, t⟩ := x
    subst e
    rw [durB_yes ha]
    exact durY_in hv (List.getElem_mem ha) t)
  have HSL := hide (show 1 ≤ m.slots ∧ m.slots ≤ 16 by
    simp only [validM, sizesB, wiI, Bool.and_eq_true, decide_eq_true_eq] at hv
    omega)
  have HLN := hide (And.intro (cand_len hv) (And.intro (ch_len hv) (fun k (hk : k < (candM m).length) (q : Nat) (hq : q ≤ nSt m (candM m)[k]) => show (chTo m k ++ chRow m k q (candM m)[k]).length ≤ 60000 by
    rw [List.length_append, chRow_len]
    have h1 := chTo_len hv k (by omega)
    have h2 := nSt_le hv (List.getElem_mem hk)
    have h3 := cand_len hv
    omega)))
  clear hb d k1 k2 k3 ha hv hc
  dsimp only at HCA
  go_enter Tryz.func24, Tryz.ntmps24
  go_wp2_with (go_at_call 37; refine HCA.out.mono ?_; rintro e w1 ⟨A, c, rfl, hr, hb1⟩
               have hm1 := HM0.out.below hb1 (by simp)
               obtain ⟨a0, a1, a2, a3, a4, a5, a6, a7, a8, a9, a10⟩ := MB.cells hm1
               have al := hm1.lt
               have HB1 := hide (HB.out.trans (hb1.mono HB.out.size))
               have HM1 := hide hm1
               have HRD := hide hr
               clear hb1 hm1 hr)
  have HS0 := hide (show SrV h m w1 A (candM m).length c [] (.slice none 0 0) _ from ⟨(Below.refl w1.heap.size w1).alloc (Nat.le_refl _) _, Blk.new w1 66 (mkC h m A (candM m).length c (.slice none 0 0)), OwnE_.nil_ _ _⟩)
  obtain ⟨n, hn⟩ : ∃ n, n = (candM m).length := ⟨_, rfl⟩
  have hn3 : n ≤ 3000 := by rw [hn]; exact HLN.out.1
  rw [← hn] at HS0 ⊢
  have HN := hide hn
  clear hn a0 a1 a2 a3 a4 a5 a6 a7 a8 a9 a10 al
  go_loopw [25] (fun i wr => ∃ (k : Nat) (v : Value), k ≤ n ∧ i = .int .i64 k ∧ Hid (SrV h m w1 A n c (chTo m k) v wr)) (fun i _ => n - (intOf i).toNat)
  case atStart => exact ⟨0, _, Nat.zero_le _, rfl, HS0⟩
  case round =>
    obtain ⟨k, v, hk, rfl, hS⟩ := hrel
    clear HS0
    by_cases hlt : k < n
    · have hkc : k < (candM m).length := by rw [← HN.out]; exact hlt
      obtain ⟨bc, oc, hA, hbc, x0, x1, x2⟩ := rd_mv (HRD.out.grow hS.out.b) hkc
      obtain ⟨x, hx⟩ : ∃ x, x = (candM m)[k] := ⟨_, rfl⟩
      have hxm : x ∈ candM m := by rw [hx]; exact List.getElem_mem hkc
      rw [← hx] at x0 x1 x2
      have hdl := HDL.out x hxm
      have hms := HM1.out.below hS.out.b HM1.out.lt
      obtain ⟨a0, a1, a2, a3, a4, a5, a6, a7, a8, a9, a10⟩ := MB.cells hms
      have al := hms.lt
      have hb5 := (Below.refl wr.heap.size wr).alloc (Nat.le_refl _) (.cells #[.int .i64 x.1, .int .i64 x.2.1, .int .i64 x.2.2] 51)
      have hs5 := hS.out.grow hb5
      have HD5 := hide (HDU.out x hxm _ (HB1.out.trans (hs5.b.mono HB1.out.size)))
      have HX5 := hide (Blk.new wr 51 #[.int .i64 x.1, .int .i64 x.2.1, .int .i64 x.2.2])
      have HS5 := hide hs5
      have HM5 := hide (hms.below hb5 hms.lt)
      have HNS := hide (show ∀ q : Nat, (q < nSt m x ↔ (q : Int) + durB m x ≤ m.slots) from fun q => by have := hdl; unfold nSt; omega)
      have HRL := hide (show ∀ q : Nat, q ≤ nSt m x → (chTo m k ++ chRow m k q x).length ≤ 60000 from fun q hq => by rw [hx]; exact HLN.out.2.2 k hkc q (by rw [← hx]; exact hq))
      have HSU := hide (show chTo m (k + 1) = chTo m k ++ chRow m k (nSt m x) x by rw [chTo_succ m hkc, hx])
      have HNM := hide (show nSt m x ≤ 16 by have := hdl; have := HSL.out; unfold nSt; omega)
      have HXX := hide hx
      have hltI : (k : Int) < (n : Int) := by omega
      have HGT := hide (show w1.heap.size < wr.heap.size from hS.out.k.lt)
      obtain ⟨dd, hdd⟩ : ∃ dd, dd = durB m x := ⟨_, rfl⟩
      rw [← hdd] at HD5 HNS hdl
      have HDD := hide hdd
      subst hA
      clear hS hx hxm hms hb5 hs5 hdd
      go_wp2_with (go_at_call 41; refine HD5.out.mono ?_; rintro e w5 ⟨rfl, hb5⟩
                   have HS6 := hide (HS5.out.grow hb5)
                   have HX6 := hide (HX5.out.below hb5 HX5.out.lt)
                   have HM6 := hide (HM5.out.below hb5 HM5.out.lt)
                   clear hb5)
      clear a0 a1 a2 a3 a4 a5 a6 a7 a8 a9 a10 al x0 x1 x2 HS5 HX5 HM5 hbc
      go_loopw [10] (fun i W => ∃ (q : Nat) (v : Value), q ≤ nSt m x ∧ i = .int .i64 q ∧ Hid (SrV h m w1 (some ⟨bc, oc, none⟩) n c (chTo m k ++ chRow m k q x) v W) ∧ Hid (Blk W wr.heap.size 51 #[.int .i64 x.1, .int .i64 x.2.1, .int .i64 x.2.2])) (fun i _ => nSt m x - (intOf i).toNat)
      case atStart => exact ⟨0, v, Nat.zero_le _, rfl, hide (by rw [show chRow m k 0 x = [] from rfl, List.append_nil]; exact HS6.out), HX6⟩
      case round =>
        obtain ⟨q, v2, hq, rfl, hS7, hX7⟩ := hrel
        have hms := HM1.out.below hS7.out.b HM1.out.lt
        have a7 := hms.cell 7
        have al := hms.lt
        simp at a7
        have hq16 := HNM.out
        have hwq : IntKind.i64.wrap ((q : Int) + dd) = (q : Int) + dd := IntWalk.i64_in _ (by omega)
        clear hms
        by_cases hlq : q < nSt m x
        · have hcd := (HNS.out q).1 hlq
          have y12 := hS7.out.c12
          have yl := hS7.out.k.lt
          have z0 := hX7.out.cell 0
          have z1 := hX7.out.cell 1
          have z2 := hX7.out.cell 2
          have zl := hX7.out.lt
          simp at z0 z1 z2
          have HRQ := hide (HRL.out q (by omega))
          obtain ⟨ll, hll⟩ : ∃ ll, ll = chTo m k ++ chRow m k q x := ⟨_, rfl⟩
          rw [← hll] at hS7 HRQ
          have HLL := hide (show ll ++ [(((k : Int), (q : Int)), x, (q : Int) + dd)] = chTo m k ++ chRow m k (q + 1) x by rw [hll, chRow_succ, ← List.append_assoc, HDD.out])
          clear hll
          go_wp2_with fail
          go_region_law
            ((first
              | (refine step_append_el okCx rfl _ _ rfl w1.heap.size v2 ll rfl ((hS7.out.grow (Below.refl _ _).drew).o.below ((Below.refl _ _).alloc (Nat.le_refl _) _)) _ _ 1 1 [(((k : Int), (q : Int)), x, (q : Int) + dd)] rfl (Reads.newE _ _) rfl (by have := HRQ.out; simp; omega) (by have := hS7.out.b.size; simp; omega) ?_
                 intro v3 x3 hO3 hg3 hv3
                 have hdr := hS7.out.grow (Below.refl _ _).drew
                 obtain ⟨t1, t2, t3⟩ := hdr.c3 hg3
                 have HS8 := hide (hdr.put hO3 hg3)
                 have HX8 := hide (fun u => hdr.other (u := u) hX7.out (by decide) (by have := HGT.out; omega) hg3)
                 clear hg3 hv3 hdr
                 obtain ⟨A3, c3, hvs, _⟩ := hO3.form
                 obtain ⟨n3, hn3⟩ : ∃ n3, n3 = (ll ++ [(((k : Int), (q : Int)), x, (q : Int) + dd)]).length := ⟨_, rfl⟩
                 rw [← hn3] at hvs
                 clear hn3 hO3
                 subst hvs)))
          all_goals
            go_wp2_with fail
            go_roundw
            case rel => exact ⟨q + 1, _, by omega, by go_num, hide (by rw [← HLL.out]; exact HS8.out), hide (HX8.out _)⟩
            case measure => simp [intOf]; omega
        · have hcd : ¬ (q : Int) + dd ≤ m.slots := fun h9 => hlq ((HNS.out q).2 h9)
          obtain rfl : q = nSt m x := by omega
          go_wp2_with fail
          go_roundw
          case rel => exact ⟨k + 1, v2, by omega, by go_num, hide (by rw [HSU.out]; exact hS7.out)⟩
          case measure => simp [intOf]; omega
    · obtain rfl : k = n := by omega
      have hO := hS.out.o
      rw [HN.out] at hO
      rw [show chTo m (candM m).length = chM m from rfl] at hO
      obtain ⟨A1, c1, e1, _⟩ := hO.form
      have y12 := hS.out.c12
      have yl := hS.out.k.lt
      rw [e1] at y12
      obtain ⟨q, hq⟩ : ∃ q, q = (chM m).length := ⟨_, rfl⟩
      have hq4 : q ≤ 48000 := by rw [hq]; exact HLN.out.2.1
      rw [← hq] at y12
      have HQ := hide hq
      have HO := hide hO
      have HBW := hide (HB1.out.trans (hS.out.b.mono HB1.out.size))
      have HK := hide hS.out.k
      have HRD2 := hide (HRD.out.grow hS.out.b)
      have HW1 := hide HB1.out.size
      clear hO hq hS e1
      by_cases hbig : 400 < q
      · have hbigI : (400 : Int) < (q : Int) := by omega
        go_wp2_with fail
        go_ret2
        refine ⟨HBW.out, ?_⟩
        rw [if_pos (by rw [← HQ.out]; exact hbig)]
        rfl
      · have hbigI : ¬ (400 : Int) < (q : Int) := by omega
        go_wp2_with fail
        go_ret2
        refine ⟨HBW.out, ?_⟩
        rw [if_neg (by rw [← HQ.out]; exact hbig)]
        exact ⟨w1.heap.size, A, c, v, rfl, by rw [← HN.out]; exact HK.out, HRD2.out, OwnE_.lower HO.out HW1.out⟩
set_option maxRecDepth 100000 in
set_option maxHeartbeats 2000000 in
theorem start_no (h : MH) (m : Mod) (w : World) (d : MD w w.heap.size h m) (k1 : m.racks.length ≤ h.rc) (k2 : m.machs.length ≤ h.mc) (k3 : m.links.length ≤ h.lc) (ha : Asc w) (hc : (candR m).2 ≠ 0) :
    Calls Tryz.prog 24 #[.agg #[.slice h.s m.sites.length h.sc, .slice h.f m.feeds.length h.fc, .slice h.r m.racks.length h.rc, .slice h.m m.machs.length h.mc, .slice h.l m.links.length h.lc, .slice h.i m.items.length h.ic, .int .i64 m.dark, .int .i64 m.slots, .int .i64 m.reserve, .int .i64 m.failures, .slice h.u m.rules.length h.uc]] w (AnsB w (.tuple #[.pointer none, .int .i64 (candR m).2])) := by
  have hb := (Below.refl w.heap.size w).alloc (Nat.le_refl _) (.cells #[.slice h.s m.sites.length h.sc, .slice h.f m.feeds.length h.fc, .slice h.r m.racks.length h.rc, .slice h.m m.machs.length h.mc, .slice h.l m.links.length h.lc, .slice h.i m.items.length h.ic, .int .i64 m.dark, .int .i64 m.slots, .int .i64 m.reserve, .int .i64 m.failures, .slice h.u m.rules.length h.uc] 29)
  have HB := hide hb
  have HCA := hide (cands_prog h m _ (d.grow hb) k1 k2 k3 (ha.below (Nat.le_refl _) hb))
  obtain ⟨q, hq⟩ : ∃ q, q = (candR m).2 := ⟨_, rfl⟩
  rw [← hq] at HCA hc ⊢
  have g : (q != 0) = true := by simpa using hc
  clear hb d k1 k2 k3 ha hc hq
  go_enter Tryz.func24, Tryz.ntmps24
  go_wp2_with (go_at_call 37; refine HCA.out.mono ?_; rintro e w1 ⟨A, c, rfl, _, hb1⟩; have HB1 := hide (HB.out.trans (hb1.mono HB.out.size)); clear hb1)
  go_ret2
  exact ⟨rfl, HB1.out⟩
set_option maxRecDepth 100000 in
set_option maxHeartbeats 4000000 in
theorem choices_yes (h : MH) (m : Mod) (w : World) (d : MD w w.heap.size h m) (k1 : m.racks.length ≤ h.rc) (k2 : m.machs.length ≤ h.mc) (k3 : m.links.length ≤ h.lc) (ha : Asc w) (hv : validM m = true) (hc : (candR m) = (candM m, 0)) :
    Calls Tryz.prog 15 #[.agg #[.slice h.s m.sites.length h.sc, .slice h.f m.feeds.length h.fc, .slice h.r m.racks.length h.rc, .slice h.m m.machs.length h.mc, .slice h.l m.links.length h.lc, .slice h.i m.items.length h.ic, .int .i64 m.dark, .int .i64 m.slots, .int .i64 m.reserve, .int .i64 m.failures, .slice h.u m.rules.length h.uc]] w (RdR elCh w (choR m).1 (choR m).2) := by
  have hb := (Below.refl w.heap.size w).alloc (Nat.le_refl _) (.cells #[.slice h.s m.sites.length h.sc, .slice h.f m.feeds.length h.fc, .slice h.r m.racks.length h.rc, .slice h.m m.machs.length h.mc, .slice h.l m.links.length h.lc, .slice h.i m.items.length h.ic, .int .i64 m.dark, .int .i64 m.slots, .int .i64 m.reserve, .int .i64 m.failures, .slice h.u m.rules.length h.uc] 29)
  have HB := hide hb
  have HST := hide (start_yes h m _ (d.grow hb) k1 k2 k3 (ha.below (Nat.le_refl _) hb) hv hc)
  have HLN := hide (ch_len hv)
  have HR := hide (show choR m = if 400 < (chM m).length then ([], 8) else ((chM m).map (·.1), 0) by rw [choR, hc]; rfl)
  clear hb d k1 k2 k3 ha hv hc
  by_cases hbig : 400 < (chM m).length
  · rw [if_pos hbig] at HR
    unfold StR at HST
    simp only [if_pos hbig] at HST
    clear hbig
    go_enter Tryz.func15, Tryz.ntmps15
    go_wp2_with (go_at_call 24; refine HST.out.mono ?_; rintro e w1 ⟨hb1, rfl⟩; have HB1 := hide (HB.out.trans (hb1.mono HB.out.size)); clear hb1)
    go_ret2
    rw [HR.out]
    exact ⟨none, 0, rfl, RdE.nil_, HB1.out⟩
  · rw [if_neg hbig] at HR
    unfold StR at HST
    simp only [if_neg hbig] at HST
    go_enter Tryz.func15, Tryz.ntmps15
    go_wp2_with (go_at_call 24; refine HST.out.mono ?_; rintro e w1 ⟨hb1, bk, A, c, v, rfl, hk, hr, ho⟩
                 have HB1 := hide (HB.out.trans (hb1.mono HB.out.size))
                 obtain ⟨A1, c1, rfl, hrd⟩ := ho.rd
                 have y12 := hk.cell 12
                 have yl := hk.lt
                 simp [mkC] at y12
                 have HRD := hide hrd
                 clear hb1 hk hr ho hrd)
    obtain ⟨n, hn⟩ : ∃ n, n = (chM m).length := ⟨_, rfl⟩
    have hn4 : n ≤ 48000 := by rw [hn]; exact HLN.out
    rw [← hn] at y12 ⊢
    have HN := hide hn
    clear hn
    have HO0 := hide (OwnE_.nil_ (E := elCh) w1.heap.size w1)
    go_loopw [6, 22] (fun v i wr => ∃ k : Nat, k ≤ n ∧ i = .int .i64 k ∧ Hid (OwnE_ elCh w1.heap.size wr v (((chM m).map (·.1)).take k)) ∧ Hid (Below w1.heap.size w1 wr)) (fun _ i _ => n - (intOf i).toNat)
    case atStart => exact ⟨0, Nat.zero_le _, rfl, HO0, hide (Below.refl _ _)⟩
    case round =>
      obtain ⟨k, hk, rfl, hO, hbr⟩ := hrel
      clear HO0
      by_cases hlt : k < n
      · have hkc : k < (chM m).length := by rw [← HN.out]; exact hlt
        obtain ⟨bc, oc, hA, hbc, x0, x1, x2, x3, x4, x5⟩ := rd_cx (HRD.out.grow hbr.out) hkc
        obtain ⟨x, hx⟩ : ∃ x, x = (chM m)[k] := ⟨_, rfl⟩
        rw [← hx] at x0 x1 x2 x3 x4 x5
        have hkm : k < ((chM m).map (·.1)).length := by rw [List.length_map]; exact hkc
        have HE := hide (show ((chM m).map (·.1)).take k ++ [x.1] = ((chM m).map (·.1)).take (k + 1) by rw [List.take_succ_eq_append_getElem hkm, hx]; simp)
        have hltI : (k : Int) < (n : Int) := by omega
        obtain ⟨ll, hll⟩ : ∃ ll, ll = ((chM m).map (·.1)).take k := ⟨_, rfl⟩
        have HLL := hide (show ll.length ≤ 48000 by rw [hll, List.length_take]; omega)
        rw [← hll] at hO HE
        obtain ⟨A3, c3, rfl, _⟩ := hO.out.form
        have hb5 := (Below.refl wr.heap.size wr).alloc (Nat.le_refl _) (.cells #[.int .i64 x.1.1, .int .i64 x.1.2, .int .i64 x.2.1.1, .int .i64 x.2.1.2.1, .int .i64 x.2.1.2.2, .int .i64 x.2.2] 70)
        have HO5 := hide (hO.out.below hb5)
        have HB5 := hide (hbr.out.trans (hb5.mono hbr.out.size))
        subst hA
        clear hx hll hO hbr hb5 hkm hkc
        go_wp2_with (at_builtin; refine append_el okCh rfl _ _ rfl w1.heap.size (.slice A3 ll.length c3) ll rfl (HO5.out.below ((Below.refl _ _).alloc (Nat.le_refl _) _)) _ _ 1 1 [x.1] rfl (Reads.newE2 (E := elCh) _ x.1 (World.size_alloc _ _).symm) rfl (by have := HLL.out; simp; omega) (by have := HB5.out.size; simp at this ⊢; omega) ?_
                     intro v3 w3 ho3 hg3 _
                     have HO3 := hide ho3
                     have HB3 := hide (Below.ofGrown (HB5.out.alloc HB5.out.size (.cells (elCh.f x.1).toArray elCh.T)) hg3 (by have := HB5.out.size; simp at this ⊢; omega) (fun k hk => (HO5.out.lt k hk).1))
                     clear ho3 hg3)
        go_roundw
        case rel => exact ⟨k + 1, by omega, by go_num, hide (by rw [← HE.out]; exact HO3.out), HB3⟩
        case measure => simp [intOf]; omega
      · obtain rfl : k = n := by omega
        have HT := hide (show ((chM m).map (·.1)).take k = (chM m).map (·.1) by rw [List.take_of_length_le]; rw [List.length_map, ← HN.out]; exact Nat.le_refl _)
        have hO2 := hO.out
        rw [HT.out] at hO2
        obtain ⟨A3, c3, e3, hrd3⟩ := hO2.rd
        have HRD3 := hide hrd3
        have HE3 := hide e3
        clear hO2 hrd3 e3
        go_wp2_with fail
        go_ret2
        rw [HR.out]
        exact ⟨A3, c3, by rw [HE3.out]; rfl, HRD3.out, HB1.out.trans (hbr.out.mono HB1.out.size)⟩
theorem choices_prog (h : MH) (m : Mod) (w : World) (d : MD w w.heap.size h m) (k1 : m.racks.length ≤ h.rc) (k2 : m.machs.length ≤ h.mc) (k3 : m.links.length ≤ h.lc) (ha : Asc w) :
    Calls Tryz.prog 15 #[.agg #[.slice h.s m.sites.length h.sc, .slice h.f m.feeds.length h.fc, .slice h.r m.racks.length h.rc, .slice h.m m.machs.length h.mc, .slice h.l m.links.length h.lc, .slice h.i m.items.length h.ic, .int .i64 m.dark, .int .i64 m.slots, .int .i64 m.reserve, .int .i64 m.failures, .slice h.u m.rules.length h.uc]] w (RdR elCh w (choR m).1 (choR m).2) := by
  by_cases hc : (candR m).2 = 0
  · have h2 : validM m = true ∧ candR m = (candM m, 0) := by
      unfold candR at hc ⊢
      split at hc
      · simp at hc
      · rename_i h1
        split at hc
        · simp at hc
        · rename_i h3
          rw [if_neg h1, if_neg h3]
          exact ⟨by simpa using h1, rfl⟩
    exact choices_yes h m w d k1 k2 k3 ha h2.1 h2.2
  · rw [show choR m = ([], (candR m).2) by rw [choR, if_pos hc]]
    have hb := (Below.refl w.heap.size w).alloc (Nat.le_refl _) (.cells #[.slice h.s m.sites.length h.sc, .slice h.f m.feeds.length h.fc, .slice h.r m.racks.length h.rc, .slice h.m m.machs.length h.mc, .slice h.l m.links.length h.lc, .slice h.i m.items.length h.ic, .int .i64 m.dark, .int .i64 m.slots, .int .i64 m.reserve, .int .i64 m.failures, .slice h.u m.rules.length h.uc] 29)
    have HB := hide hb
    have HST := hide (start_no h m _ (d.grow hb) k1 k2 k3 (ha.below (Nat.le_refl _) hb) hc)
    obtain ⟨q, hq⟩ : ∃ q, q = (candR m).2 := ⟨_, rfl⟩
    rw [← hq] at HST hc ⊢
    have g : (q != 0) = true := by simpa using hc
    clear hb d k1 k2 k3 ha hc hq
    go_enter Tryz.func15, Tryz.ntmps15
    go_wp2_with (go_at_call 24; refine HST.out.mono ?_; rintro e w1 ⟨rfl, hb1⟩; have HB1 := hide (HB.out.trans (hb1.mono HB.out.size)); clear hb1)
    go_ret2
    exact ⟨none, 0, rfl, RdE.nil_, HB1.out⟩
end Go.Proofs.YtpggamapmgpjcaaGreatDoor
