/- The walk of moves.Candidates at any model. Conditions: lengths that fit memory; the table of spaces. The walks of moves.Valid and Duration. Conditions: lengths that fit memory; the table of spaces. -/
import Derived.Test.YtpggamapmgpjcaaGreatDoorK19
import Derived.Test.YtpggamapmgpjcaaGreatDoorK10
import Derived.Test.YtpggamapmgpjcaaGreatDoorK28

namespace Go.Proofs.YtpggamapmgpjcaaGreatDoor
open Go Go.RowKit Go.Proofs

/-- the state of the closure that adds candidates: its list lies in block bx -/
structure CdV (w : World) (h : MH) (m : Mod) (bx : Nat) (l : List MvM) (W : World) : Prop where
  b : Below w.heap.size w W
  mo : Blk W w.heap.size 29 #[.slice h.s m.sites.length h.sc, .slice h.f m.feeds.length h.fc, .slice h.r m.racks.length h.rc, .slice h.m m.machs.length h.mc, .slice h.l m.links.length h.lc, .slice h.i m.items.length h.ic, .int .i64 m.dark, .int .i64 m.slots, .int .i64 m.reserve, .int .i64 m.failures, .slice h.u m.rules.length h.uc]
  v : ∃ v, Blk W bx 62 #[v] ∧ OwnE_ elMv w.heap.size W v l
theorem CdV.grow {w : World} {h : MH} {m : Mod} {bx : Nat} {l : List MvM} {W W2 : World} (s : CdV w h m bx l W) (hb : Below W.heap.size W W2) : CdV w h m bx l W2 := by
  obtain ⟨v, h1, h2⟩ := s.v
  exact ⟨s.b.trans (hb.mono s.b.size), s.mo.below hb s.mo.lt, v, h1.below hb h1.lt, h2.below hb⟩
set_option maxRecDepth 100000 in
set_option maxHeartbeats 4000000 in
theorem cand1_no (h : MH) (m : Mod) (x : MvM) (bx : Nat) (l : List MvM) (w W : World) (d : MD w w.heap.size h m) (hv : validM m = true) (s : CdV w h m bx l W) (hf : fitB m x = false) :
    Calls Tryz.prog 59 #[.agg #[.int .i64 x.1, .int .i64 x.2.1, .int .i64 x.2.2], .pointer (some ⟨w.heap.size, 0, none⟩), .pointer (some ⟨bx, 0, none⟩)] W (TupR (CdV w h m bx l)) := by
  have hb := (Below.refl W.heap.size W).alloc (Nat.le_refl _) (.cells #[.int .i64 x.1, .int .i64 x.2.1, .int .i64 x.2.2] 51)
  have hs := s.grow hb
  obtain ⟨a0, a1, a2, a3, a4, a5, a6, a7, a8, a9, a10⟩ := MB.cells hs.mo
  have al := hs.mo.lt
  have HF := hide (fits_prog h m x _ (d.grow hs.b) hv)
  rw [hf] at HF
  have HS := hide hs
  clear hb hs s d hv hf
  go_enter Tryz.func59, Tryz.ntmps59
  go_wp2_with (go_at_call 52; refine HF.out.mono ?_; rintro e w1 ⟨rfl, hb1⟩; have HS1 := hide (HS.out.grow hb1); clear hb1)
  go_end0
  exact ⟨rfl, HS1.out⟩
set_option maxRecDepth 100000 in
set_option maxHeartbeats 4000000 in
theorem cand1_yes (h : MH) (m : Mod) (x : MvM) (bx : Nat) (l : List MvM) (w W : World) (d : MD w w.heap.size h m) (hv : validM m = true) (hbx : w.heap.size ≤ bx) (s : CdV w h m bx l W) (hl : l.length ≤ 3000) (hf : fitB m x = true) :
    Calls Tryz.prog 59 #[.agg #[.int .i64 x.1, .int .i64 x.2.1, .int .i64 x.2.2], .pointer (some ⟨w.heap.size, 0, none⟩), .pointer (some ⟨bx, 0, none⟩)] W (TupR (CdV w h m bx (l ++ [x]))) := by
  have hb := (Below.refl W.heap.size W).alloc (Nat.le_refl _) (.cells #[.int .i64 x.1, .int .i64 x.2.1, .int .i64 x.2.2] 51)
  have hs := s.grow hb
  obtain ⟨a0, a1, a2, a3, a4, a5, a6, a7, a8, a9, a10⟩ := MB.cells hs.mo
  have al := hs.mo.lt
  have HF := hide (fits_prog h m x _ (d.grow hs.b) hv)
  rw [hf] at HF
  have HS := hide hs
  have HV0 := hide (Blk.new W 51 #[.int .i64 x.1, .int .i64 x.2.1, .int .i64 x.2.2])
  clear hb hs s d hv hf
  go_enter Tryz.func59, Tryz.ntmps59
  go_wp2_with (first
    | (go_at_call 52; refine HF.out.mono ?_; rintro e w1 ⟨rfl, hb1⟩
       have hs1 := HS.out.grow hb1
       have hV1 := HV0.out.below hb1 (by simp)
       obtain ⟨v, hX1, hO1⟩ := hs1.v
       obtain ⟨A1, c1, rfl, _⟩ := hO1.form
       have y0 := hX1.cell 0
       have yl := hX1.lt
       have v0 := hV1.cell 0
       have v1 := hV1.cell 1
       have v2 := hV1.cell 2
       have vl := hV1.lt
       simp at y0 v0 v1 v2
       have HS1 := hide (And.intro hs1.b hs1.mo)
       have HX1 := hide hX1
       have HO1 := hide hO1
       clear hb1 hs1 hV1 hX1 hO1 a0 a1 a2 a3 a4 a5 a6 a7 a8 a9 a10 al)
    | (at_builtin; refine append_el okMv rfl _ _ rfl w.heap.size (.slice A1 l.length c1) l rfl (HO1.out.below ((Below.refl _ _).alloc (Nat.le_refl _) _)) _ _ 1 1 [x] rfl (Reads.newE w1 x) rfl (by simp; omega) (by have := HS1.out.1.size; simp; omega) ?_
       intro v3 w3 ho3 hg3 _
       have hx1 := (HX1.out).alloc (.cells (elMv.f x).toArray elMv.T)
       have ho1 := HO1.out.below ((Below.refl w1.heap.size w1).alloc (Nat.le_refl _) (.cells (elMv.f x).toArray elMv.T))
       have hx3 := hx1.grown hg3 (fun e => ho1.ne hx1 (by decide) e.symm)
       have hm1 := (HS1.out.2).alloc (.cells (elMv.f x).toArray elMv.T)
       have HM3 := hide (hm1.grown hg3 (fun e => ho1.ne hm1 (by decide) e.symm))
       have HB3 := hide (Below.ofGrown (HS1.out.1.alloc HS1.out.1.size (.cells (elMv.f x).toArray elMv.T)) hg3 (by have := HS1.out.1.size; simp; omega) (fun k hk => (ho1.lt k hk).1))
       obtain ⟨A4, c4, rfl, _⟩ := ho3.form
       have z0 := hx3.cell 0
       have zf := hx3.frozen 0
       have zl := hx3.lt
       simp at z0
       have HX3 := hide hx3
       have HO3 := hide ho3
       clear ho3 hg3 hx1 ho1 hx3 hm1))
  go_end0
  have hne : w.heap.size ≠ bx := fun e => by
    have h1 := HM3.out
    rw [e] at h1
    have h2 := HX3.out
    rw [Blk] at h1 h2
    have h3 := h1.symm.trans h2
    simp at h3
  exact ⟨rfl, ⟨HB3.out.setCell (by simpa using hbx) _, HM3.out.far (by simpa using hne) _, _, by simpa using HX3.out.set_ 0 _, HO3.out.keepB (fun g cur e hB => hB.far (fun e2 => HO3.out.ne HX3.out (by decide) (by rw [e]; simp only at e2; rw [e2])) _)⟩⟩
theorem cand1_prog (h : MH) (m : Mod) (x : MvM) (bx : Nat) (l : List MvM) (w W : World) (d : MD w w.heap.size h m) (hv : validM m = true) (hbx : w.heap.size ≤ bx) (s : CdV w h m bx l W) (hl : l.length ≤ 3000) :
    Calls Tryz.prog 59 #[.agg #[.int .i64 x.1, .int .i64 x.2.1, .int .i64 x.2.2], .pointer (some ⟨w.heap.size, 0, none⟩), .pointer (some ⟨bx, 0, none⟩)] W (TupR (CdV w h m bx (l ++ if fitB m x then [x] else []))) := by
  cases hf : fitB m x
  · have := cand1_no h m x bx l w W d hv s hf
    simpa using this
  · have := cand1_yes h m x bx l w W d hv hbx s hl hf
    simpa using this
/-- what a call that answers rows and an error does -/
def RdR {α : Type} (E : El α) (w : World) (l : List α) (n : Int) (e : Ending) (w' : World) : Prop := ∃ A c, e = .returned (.tuple #[.slice A l.length c, .int .i64 n]) ∧ RdE E w' A l ∧ Below w.heap.size w w'
set_option maxRecDepth 100000 in
set_option maxHeartbeats 8000000 in
theorem cands_yes (h : MH) (m : Mod) (w : World) (d : MD w w.heap.size h m) (k1 : m.racks.length ≤ h.rc) (k2 : m.machs.length ≤ h.mc) (k3 : m.links.length ≤ h.lc) (ha : Asc w) (hv : validM m = true) :
    Calls Tryz.prog 37 #[.agg #[.slice h.s m.sites.length h.sc, .slice h.f m.feeds.length h.fc, .slice h.r m.racks.length h.rc, .slice h.m m.machs.length h.mc, .slice h.l m.links.length h.lc, .slice h.i m.items.length h.ic, .int .i64 m.dark, .int .i64 m.slots, .int .i64 m.reserve, .int .i64 m.failures, .slice h.u m.rules.length h.uc]] w (RdR elMv w (candR m).1 (candR m).2) := by
  have hb := (Below.refl w.heap.size w).alloc (Nat.le_refl _) (.cells #[.slice h.s m.sites.length h.sc, .slice h.f m.feeds.length h.fc, .slice h.r m.racks.length h.rc, .slice h.m m.machs.length h.mc, .slice h.l m.links.length h.lc, .slice h.i m.items.length h.ic, .int .i64 m.dark, .int .i64 m.slots, .int .i64 m.reserve, .int .i64 m.failures, .slice h.u m.rules.length h.uc] 29)
  have HB := hide hb
  have HM0 := hide (Blk.new w 29 #[.slice h.s m.sites.length h.sc, .slice h.f m.feeds.length h.fc, .slice h.r m.racks.length h.rc, .slice h.m m.machs.length h.mc, .slice h.l m.links.length h.lc, .slice h.i m.items.length h.ic, .int .i64 m.dark, .int .i64 m.slots, .int .i64 m.reserve, .int .i64 m.failures, .slice h.u m.rules.length h.uc])
  have HV := hide (validM_any h m _ (d.grow hb) k1 k2 k3 (ha.below (Nat.le_refl _) hb))
  rw [hv] at HV
  obtain ⟨s1, _, s3, _⟩ := valid_sizes hv
  have HC := hide (fun (i f t : Nat) (hi : i < m.items.length) (hf : f < m.machs.length + 1) (ht : t < m.machs.length + 1) (bx : Nat) (W : World) (hbx : w.heap.size ≤ bx) (s : CdV w h m bx (candTo m i ++ (rowF m i f ++ rowT m i f t)) W) =>
    cand1_prog h m ((i : Int) + 1, (f : Int), (t : Int)) bx _ w W d hv hbx s (cand_sizes hv (by omega) (by omega) (by omega)))
  have HL := hide (cand_len hv)
  have HR := hide (show candR m = if 200 < (candM m).length then ([], 8) else (candM m, 0) by rw [candR, if_neg (by simp [hv])])
  have hil := d.il
  have hml := d.ml
  clear hb d k1 k2 k3 ha hv
  go_enter Tryz.func37, Tryz.ntmps37
  go_wp2_with (go_at_call 25; refine HV.out.mono ?_; rintro e w1 ⟨rfl, hb1⟩
               have hm1 := HM0.out.below hb1 (by simp)
               have hb2 := (Below.refl w1.heap.size w1).alloc (Nat.le_refl _) (.cells #[.slice none 0 0] 62)
               have hs2 : CdV w h m w1.heap.size [] (w1.alloc (.cells #[.slice none 0 0] 62)) := ⟨(HB.out.trans (hb1.mono HB.out.size)).trans (hb2.mono (by have := HB.out.size; have := hb1.size; simp at *; omega)), hm1.below hb2 hm1.lt, _, Blk.new _ _ _, OwnE_.nil_ _ _⟩
               obtain ⟨a0, a1, a2, a3, a4, a5, a6, a7, a8, a9, a10⟩ := MB.cells hs2.mo
               have al := hs2.mo.lt
               have HBX := hide (show w.heap.size ≤ w1.heap.size by have := HB.out.size; have := hb1.size; simp at *; omega)
               have HS2 := hide hs2
               clear hb1 hm1 hb2 hs2)
  clear a0 a1 a2 a3 a4 a5 a6 a7 a8 a9 a10 al
  go_loopw [16] (fun i wr => ∃ k : Nat, k ≤ m.items.length ∧ i = .int .i64 k ∧ Hid (CdV w h m w1.heap.size (candTo m k) wr)) (fun i _ => m.items.length - (intOf i).toNat)
  case atStart => exact ⟨0, Nat.zero_le _, rfl, HS2⟩
  case round =>
    obtain ⟨k, hk, rfl, hS⟩ := hrel
    clear HS2
    by_cases hlt : k < m.items.length
    · obtain ⟨a0, a1, a2, a3, a4, a5, a6, a7, a8, a9, a10⟩ := MB.cells hS.out.mo
      have al := hS.out.mo.lt
      go_wp2_with fail
      clear a0 a1 a2 a3 a4 a5 a6 a7 a8 a9 a10 al
      go_loopw [23] (fun i wr => ∃ j : Nat, j ≤ m.machs.length + 1 ∧ i = .int .i64 j ∧ Hid (CdV w h m w1.heap.size (candTo m k ++ rowF m k j) wr)) (fun i _ => m.machs.length + 1 - (intOf i).toNat)
      case atStart => exact ⟨0, Nat.zero_le _, rfl, hide (by rw [show rowF m k 0 = [] from rfl, List.append_nil]; exact hS.out)⟩
      case round =>
        obtain ⟨j, hj, rfl, hS2⟩ := hrel
        by_cases hlj : j < m.machs.length + 1
        · obtain ⟨a0, a1, a2, a3, a4, a5, a6, a7, a8, a9, a10⟩ := MB.cells hS2.out.mo
          have al := hS2.out.mo.lt
          have hljI : (j : Int) < (m.machs.length : Int) + 1 := by omega
          go_wp2_with fail
          clear a0 a1 a2 a3 a4 a5 a6 a7 a8 a9 a10 al
          go_loopw [30] (fun i wr => ∃ q : Nat, q ≤ m.machs.length + 1 ∧ i = .int .i64 q ∧ Hid (CdV w h m w1.heap.size (candTo m k ++ (rowF m k j ++ rowT m k j q)) wr)) (fun i _ => m.machs.length + 1 - (intOf i).toNat)
          case atStart => exact ⟨0, Nat.zero_le _, rfl, hide (by rw [show rowT m k j 0 = [] from rfl, List.append_nil]; exact hS2.out)⟩
          case round =>
            obtain ⟨q, hq, rfl, hS3⟩ := hrel
            by_cases hlq : q < m.machs.length + 1
            · have hlqI : (q : Int) < (m.machs.length : Int) + 1 := by omega
              have HC3 := hide (HC.out k j q hlt hlj hlq w1.heap.size _ HBX.out hS3.out)
              go_wp2_with (go_at_call 59; refine HC3.out.mono ?_; rintro e w5 ⟨rfl, hS5⟩; have HS5 := hide hS5; clear hS5)
              go_roundw
              case rel => exact ⟨q + 1, by omega, by go_num, hide (by rw [rowT_succ, ← List.append_assoc (rowF m k j), ← List.append_assoc (candTo m k)]; exact HS5.out)⟩
              case measure => simp [intOf]; omega
            · have hlqI : ¬ (q : Int) < (m.machs.length : Int) + 1 := by omega
              obtain rfl : q = m.machs.length + 1 := by omega
              go_wp2_with fail
              go_roundw
              case rel => exact ⟨j + 1, by omega, by go_num, hide (by rw [rowF_succ]; exact hS3.out)⟩
              case measure => simp [intOf]; omega
        · have hljI : ¬ (j : Int) < (m.machs.length : Int) + 1 := by omega
          obtain rfl : j = m.machs.length + 1 := by omega
          go_wp2_with fail
          go_roundw
          case rel => exact ⟨k + 1, by omega, by go_num, hide (by rw [candTo_succ]; exact hS2.out)⟩
          case measure => simp [intOf]; omega
    · obtain rfl : k = m.items.length := by omega
      obtain ⟨v, hX, hO⟩ := hS.out.v
      rw [show candTo m m.items.length = candM m from rfl] at hO
      obtain ⟨A1, c1, e1, hr⟩ := hO.rd
      have y0 := hX.cell 0
      have yl := hX.lt
      simp at y0
      rw [e1] at y0
      have HRD := hide hr
      have HBW := hide hS.out.b
      obtain ⟨n, hn⟩ : ∃ n, n = (candM m).length := ⟨_, rfl⟩
      have hn3 : n ≤ 3000 := by rw [hn]; exact HL.out
      rw [← hn] at y0
      have HN := hide hn
      clear hX hO hr hn hS
      by_cases hbig : 200 < n
      · have hbigI : (200 : Int) < (n : Int) := by omega
        rw [if_pos (by rw [← HN.out]; exact hbig)] at HR
        go_wp2_with fail
        go_ret2
        rw [HR.out]
        exact ⟨none, 0, rfl, RdE.nil_, HBW.out⟩
      · have hbigI : ¬ (200 : Int) < (n : Int) := by omega
        rw [if_neg (by rw [← HN.out]; exact hbig)] at HR
        go_wp2_with fail
        go_ret2
        rw [HR.out]
        exact ⟨A1, c1, by rw [← HN.out]; rfl, HRD.out, HBW.out⟩
set_option maxRecDepth 100000 in
set_option maxHeartbeats 2000000 in
theorem cands_no (h : MH) (m : Mod) (w : World) (d : MD w w.heap.size h m) (k1 : m.racks.length ≤ h.rc) (k2 : m.machs.length ≤ h.mc) (k3 : m.links.length ≤ h.lc) (ha : Asc w) (hv : validM m = false) :
    Calls Tryz.prog 37 #[.agg #[.slice h.s m.sites.length h.sc, .slice h.f m.feeds.length h.fc, .slice h.r m.racks.length h.rc, .slice h.m m.machs.length h.mc, .slice h.l m.links.length h.lc, .slice h.i m.items.length h.ic, .int .i64 m.dark, .int .i64 m.slots, .int .i64 m.reserve, .int .i64 m.failures, .slice h.u m.rules.length h.uc]] w (RdR elMv w (candR m).1 (candR m).2) := by
  have hb := (Below.refl w.heap.size w).alloc (Nat.le_refl _) (.cells #[.slice h.s m.sites.length h.sc, .slice h.f m.feeds.length h.fc, .slice h.r m.racks.length h.rc, .slice h.m m.machs.length h.mc, .slice h.l m.links.length h.lc, .slice h.i m.items.length h.ic, .int .i64 m.dark, .int .i64 m.slots, .int .i64 m.reserve, .int .i64 m.failures, .slice h.u m.rules.length h.uc] 29)
  have HB := hide hb
  have HV := hide (validM_any h m _ (d.grow hb) k1 k2 k3 (ha.below (Nat.le_refl _) hb))
  rw [hv] at HV
  have HR := hide (show candR m = ([], 1) by rw [candR, if_pos hv])
  clear hb d k1 k2 k3 ha hv
  go_enter Tryz.func37, Tryz.ntmps37
  go_wp2_with (go_at_call 25; refine HV.out.mono ?_; rintro e w1 ⟨rfl, hb1⟩; have HB1 := hide (HB.out.trans (hb1.mono HB.out.size)); clear hb1)
  go_ret2
  rw [HR.out]
  exact ⟨none, 0, rfl, RdE.nil_, HB1.out⟩
theorem cands_prog (h : MH) (m : Mod) (w : World) (d : MD w w.heap.size h m) (k1 : m.racks.length ≤ h.rc) (k2 : m.machs.length ≤ h.mc) (k3 : m.links.length ≤ h.lc) (ha : Asc w) :
    Calls Tryz.prog 37 #[.agg #[.slice h.s m.sites.length h.sc, .slice h.f m.feeds.length h.fc, .slice h.r m.racks.length h.rc, .slice h.m m.machs.length h.mc, .slice h.l m.links.length h.lc, .slice h.i m.items.length h.ic, .int .i64 m.dark, .int .i64 m.slots, .int .i64 m.reserve, .int .i64 m.failures, .slice h.u m.rules.length h.uc]] w (RdR elMv w (candR m).1 (candR m).2) := by
  cases hv : validM m
  · exact cands_no h m w d k1 k2 k3 ha hv
  · exact cands_yes h m w d k1 k2 k3 ha hv
end Go.Proofs.YtpggamapmgpjcaaGreatDoor

namespace Go.Proofs.YtpggamapmgpjcaaGreatDoor
open Go Go.RowKit Go.Proofs

/-- the two boxes of a model and a move -/
structure F2 (w : World) (M V : Array Value) (W : World) : Prop where
  m : Blk W w.heap.size 29 M
  v : Blk W (w.heap.size + 1) 51 V
  b : Below w.heap.size w W
theorem F2.start (w : World) (M V : Array Value) : F2 w M V ((w.alloc (.cells M 29)).alloc (.cells V 51)) :=
  ⟨(Blk.new w _ M).alloc _, by simpa using Blk.new (w.alloc (.cells M 29)) 51 V, ((Below.refl _ _).alloc (Nat.le_refl _) _).alloc (by simp) _⟩
theorem F2.grow {w : World} {M V : Array Value} {W W2 : World} (s : F2 w M V W) (hb : Below W.heap.size W W2) : F2 w M V W2 := ⟨s.m.below hb s.m.lt, s.v.below hb s.v.lt, s.b.trans (hb.mono s.b.size)⟩
set_option maxRecDepth 100000 in
set_option maxHeartbeats 2000000 in
theorem mvalid_prog (h : MH) (m : Mod) (x : MvM) (w : World) (d : MD w w.heap.size h m) (k1 : m.racks.length ≤ h.rc) (k2 : m.machs.length ≤ h.mc) (k3 : m.links.length ≤ h.lc) (ha : Asc w) :
    Calls Tryz.prog 26 #[.agg #[.slice h.s m.sites.length h.sc, .slice h.f m.feeds.length h.fc, .slice h.r m.racks.length h.rc, .slice h.m m.machs.length h.mc, .slice h.l m.links.length h.lc, .slice h.i m.items.length h.ic, .int .i64 m.dark, .int .i64 m.slots, .int .i64 m.reserve, .int .i64 m.failures, .slice h.u m.rules.length h.uc], .agg #[.int .i64 x.1, .int .i64 x.2.1, .int .i64 x.2.2]] w (AnsB w (.bool (validM m && fitB m x))) := by
  have hs := F2.start w #[.slice h.s m.sites.length h.sc, .slice h.f m.feeds.length h.fc, .slice h.r m.racks.length h.rc, .slice h.m m.machs.length h.mc, .slice h.l m.links.length h.lc, .slice h.i m.items.length h.ic, .int .i64 m.dark, .int .i64 m.slots, .int .i64 m.reserve, .int .i64 m.failures, .slice h.u m.rules.length h.uc] #[.int .i64 x.1, .int .i64 x.2.1, .int .i64 x.2.2]
  have HV := hide (validM_any h m _ (d.grow hs.b) k1 k2 k3 (ha.below (Nat.le_refl _) hs.b))
  have HS := hide hs
  cases hv : validM m
  · rw [hv] at HV
    rw [Bool.false_and]
    clear hs d k1 k2 k3 ha hv
    go_enter Tryz.func26, Tryz.ntmps26
    go_wp2_with (go_at_call 25; refine HV.out.mono ?_; rintro e w1 ⟨rfl, hb1⟩; have HS1 := hide (HS.out.grow hb1); clear hb1)
    go_ret
    exact ⟨rfl, HS1.out.b⟩
  · rw [hv] at HV
    rw [Bool.true_and]
    have HF := hide (fun W (hW : Below w.heap.size w W) => fits_prog h m x W (d.grow hW) hv)
    obtain ⟨q, hq⟩ : ∃ q, q = fitB m x := ⟨_, rfl⟩
    rw [← hq] at HF ⊢
    clear hs d k1 k2 k3 ha hv hq
    go_enter Tryz.func26, Tryz.ntmps26
    go_wp2_with (first
      | (go_at_call 25; refine HV.out.mono ?_; rintro e w1 ⟨rfl, hb1⟩
         have hs1 := HS.out.grow hb1
         obtain ⟨a0, a1, a2, a3, a4, a5, a6, a7, a8, a9, a10⟩ := MB.cells hs1.m
         have b0 := hs1.v.cell 0
         have b1 := hs1.v.cell 1
         have b2 := hs1.v.cell 2
         have al := hs1.m.lt
         have bl := hs1.v.lt
         simp at b0 b1 b2 bl
         have HS1 := hide hs1
         clear hb1 hs1)
      | (go_at_call 52; refine (HF.out _ HS1.out.b).mono ?_; rintro e w2 ⟨rfl, hb2⟩; have HS2 := hide (HS1.out.grow hb2); clear hb2))
    go_ret
    exact ⟨ret_congr (by simp), HS2.out.b⟩
set_option maxRecDepth 100000 in
set_option maxHeartbeats 2000000 in
theorem dur1_prog (x : ItemM) (A : Option Addr) (c bx : Nat) (i f t : Int) (w : World) (hX : Blk w bx 51 #[.int .i64 i, .int .i64 f, .int .i64 t]) (h1 : 0 ≤ x.size) (h2 : x.size ≤ 1048576) (h3 : 1 ≤ x.share) (h4 : x.share ≤ 1048576) :
    Calls Tryz.prog 65 #[.agg #[.string x.name, .int .i64 x.kind, .int .i64 x.count, .int .i64 x.load, .int .i64 x.size, .int .i64 x.share, .slice A x.on.length c], .pointer (some ⟨bx, 0, none⟩)] w (AnsB w (.int .i64 (durY x t))) := by
  have hb := (Below.refl w.heap.size w).alloc (Nat.le_refl _) (.cells #[.string x.name, .int .i64 x.kind, .int .i64 x.count, .int .i64 x.load, .int .i64 x.size, .int .i64 x.share, .slice A x.on.length c] 91)
  have HB := hide hb
  have x2 := hX.cell 2
  have xl := hX.lt
  simp at x2
  clear hb hX
  by_cases ht : t = 0
  · have g : (t == 0) = true := by simpa using ht
    have HV := hide (show durY x t = 1 by rw [durY, if_pos ht])
    clear ht
    go_enter Tryz.func65, Tryz.ntmps65
    go_wp2_with fail
    go_ret
    exact ⟨ret_congr (by rw [HV.out]; rfl), HB.out⟩
  · have g : (t == 0) = false := by simpa using ht
    have hq0 : 0 ≤ (x.size + x.share - 1) / x.share := Int.ediv_nonneg (by omega) (by omega)
    have hq1 : (x.size + x.share - 1) / x.share ≤ x.size + x.share - 1 := Int.ediv_le_self _ (by omega)
    have e0 : (x.size + x.share - 1).tdiv x.share = (x.size + x.share - 1) / x.share := Int.tdiv_eq_ediv_of_nonneg (by omega)
    have HV := hide (show durY x t = max 1 ((x.size + x.share - 1) / x.share) by rw [durY, if_neg ht])
    have w1 : IntKind.i64.wrap (x.size + x.share) = x.size + x.share := IntWalk.i64_in _ (by omega)
    have w2 : IntKind.i64.wrap (x.size + x.share - 1) = x.size + x.share - 1 := IntWalk.i64_in _ (by omega)
    have w3 : IntKind.i64.wrap ((x.size + x.share - 1) / x.share) = (x.size + x.share - 1) / x.share := IntWalk.i64_in _ (by omega)
    have hnz : ¬ x.share = 0 := by omega
    have hnz2 : (x.share == 0) = false := by simpa using hnz
    clear ht
    go_enter Tryz.func65, Tryz.ntmps65
    go_wp2_with fail
    go_ret
    exact ⟨ret_congr (by rw [HV.out]; simp [Int.max_def]; try omega), HB.out⟩
set_option maxRecDepth 100000 in
set_option maxHeartbeats 4000000 in
theorem ofdur_prog (h : MH) (m : Mod) (a bx : Nat) (f t : Int) (w : World) (d : MD w w.heap.size h m) (k1 : m.racks.length ≤ h.rc) (k2 : m.machs.length ≤ h.mc) (k3 : m.links.length ≤ h.lc) (ha : Asc w) (hv : validM m = true) (hal : a < m.items.length) (hf : fitB m ((a : Int) + 1, f, t) = true)
    (hX : Blk w bx 51 #[.int .i64 ((a : Int) + 1), .int .i64 f, .int .i64 t]) :
    Calls Tryz.prog 64 #[.agg #[.slice h.s m.sites.length h.sc, .slice h.f m.feeds.length h.fc, .slice h.r m.racks.length h.rc, .slice h.m m.machs.length h.mc, .slice h.l m.links.length h.lc, .slice h.i m.items.length h.ic, .int .i64 m.dark, .int .i64 m.slots, .int .i64 m.reserve, .int .i64 m.failures, .slice h.u m.rules.length h.uc], .agg #[.int .i64 ((a : Int) + 1), .int .i64 f, .int .i64 t], .func (.func 65) #[] #[.pointer (some ⟨bx, 0, none⟩)]] w (AnsB w (.int .i64 (durY m.items[a] t))) := by
  have hs := F2.start w #[.slice h.s m.sites.length h.sc, .slice h.f m.feeds.length h.fc, .slice h.r m.racks.length h.rc, .slice h.m m.machs.length h.mc, .slice h.l m.links.length h.lc, .slice h.i m.items.length h.ic, .int .i64 m.dark, .int .i64 m.slots, .int .i64 m.reserve, .int .i64 m.failures, .slice h.u m.rules.length h.uc] #[.int .i64 ((a : Int) + 1), .int .i64 f, .int .i64 t]
  have HV := hide (mvalid_prog h m ((a : Int) + 1, f, t) _ (d.grow hs.b) k1 k2 k3 (ha.below (Nat.le_refl _) hs.b))
  rw [hv, hf, Bool.and_true] at HV
  have HS := hide hs
  obtain ⟨s1, _⟩ := valid_sizes hv
  obtain ⟨x, hx⟩ : ∃ x, x = m.items[a] := ⟨_, rfl⟩
  have hxm : x ∈ m.items := by rw [hx]; exact List.getElem_mem hal
  obtain ⟨_, _, _, z1, z2, z3, z4⟩ := valid_itm hv hxm
  obtain ⟨bi, oi, A, c, hA, hb, x0, x1, x2, x3, x4, x5, x6, _, hcl, hcm, gI⟩ := d.dI.item hal
  rw [← hx] at x0 x1 x2 x3 x4 x5 x6 ⊢
  have HX := hide (fun W (hW : Below w.heap.size w W) => And.intro hb (And.intro (hW.cell (p := ⟨bi, oi + a * 7, none⟩) hb |>.trans x0) (And.intro (hW.cell (p := ⟨bi, oi + a * 7 + 1, none⟩) hb |>.trans x1) (And.intro (hW.cell (p := ⟨bi, oi + a * 7 + 2, none⟩) hb |>.trans x2) (And.intro (hW.cell (p := ⟨bi, oi + a * 7 + 3, none⟩) hb |>.trans x3) (And.intro (hW.cell (p := ⟨bi, oi + a * 7 + 4, none⟩) hb |>.trans x4) (And.intro (hW.cell (p := ⟨bi, oi + a * 7 + 5, none⟩) hb |>.trans x5) (hW.cell (p := ⟨bi, oi + a * 7 + 6, none⟩) hb |>.trans x6))))))))
  have HD := hide (fun W (hW : Below w.heap.size w W) => dur1_prog x A c bx ((a : Int) + 1) f t W (hX.below hW hX.lt) z1 z2 z3 z4)
  have haI : (a : Int) < (m.items.length : Int) := by omega
  have hw1 : IntKind.i64.wrap ((a : Int) + 1 - 1) = (a : Int) := by rw [IntWalk.i64_in _ (by omega)]; omega
  rw [hA] at HS HV
  have HA := hide hA
  clear hs d k1 k2 k3 ha hv hf hX x0 x1 x2 x3 x4 x5 x6 gI hcl hcm hb hA hx hxm z1 z2 z3 z4
  rw [HA.out]
  go_enter Tryz.func64, Tryz.ntmps64
  go_wp2_with (first
    | (go_at_call 26; refine HV.out.mono ?_; rintro e w1 ⟨rfl, hb1⟩
       have hs1 := HS.out.grow hb1
       have a5 := hs1.m.cell 5
       have b0 := hs1.v.cell 0
       have al := hs1.m.lt
       have bl := hs1.v.lt
       simp at a5 b0 bl
       obtain ⟨hbi, x0, x1, x2, x3, x4, x5, x6⟩ := HX.out w1 hs1.b
       have hbl := Nat.lt_of_lt_of_le hbi hs1.b.size
       have HS1 := hide hs1
       clear hb1 hs1)
    | (go_at_call 65; refine (HD.out _ HS1.out.b).mono ?_; rintro e w2 ⟨rfl, hb2⟩; have HS2 := hide (HS1.out.grow hb2); clear hb2))
  go_ret
  exact ⟨rfl, HS2.out.b⟩
set_option maxRecDepth 100000 in
set_option maxHeartbeats 2000000 in
theorem dur_prog (h : MH) (m : Mod) (x : MvM) (w : World) (d : MD w w.heap.size h m) (k1 : m.racks.length ≤ h.rc) (k2 : m.machs.length ≤ h.mc) (k3 : m.links.length ≤ h.lc) (ha : Asc w) (hv : validM m = true) (hf : fitB m x = true) :
    Calls Tryz.prog 41 #[.agg #[.slice h.s m.sites.length h.sc, .slice h.f m.feeds.length h.fc, .slice h.r m.racks.length h.rc, .slice h.m m.machs.length h.mc, .slice h.l m.links.length h.lc, .slice h.i m.items.length h.ic, .int .i64 m.dark, .int .i64 m.slots, .int .i64 m.reserve, .int .i64 m.failures, .slice h.u m.rules.length h.uc], .agg #[.int .i64 x.1, .int .i64 x.2.1, .int .i64 x.2.2]] w (AnsB w (.int .i64 (durB m x))) := by
  obtain ⟨n, f, t⟩ := x
  cases he : exI n m.items.length
  · rw [fitB, itemAt_no he] at hf; cases hf
  obtain ⟨a, hal, rfl⟩ := exI_yes he
  rw [durB_yes hal]
  have hs := F2.start w #[.slice h.s m.sites.length h.sc, .slice h.f m.feeds.length h.fc, .slice h.r m.racks.length h.rc, .slice h.m m.machs.length h.mc, .slice h.l m.links.length h.lc, .slice h.i m.items.length h.ic, .int .i64 m.dark, .int .i64 m.slots, .int .i64 m.reserve, .int .i64 m.failures, .slice h.u m.rules.length h.uc] #[.int .i64 ((a : Int) + 1), .int .i64 f, .int .i64 t]
  have HO := hide (ofdur_prog h m a (w.heap.size + 1) f t _ (d.grow hs.b) k1 k2 k3 (ha.below (Nat.le_refl _) hs.b) hv hal hf hs.v)
  have HB := hide hs.b
  obtain ⟨q, hq⟩ : ∃ q, q = durY m.items[a] t := ⟨_, rfl⟩
  rw [← hq] at HO ⊢
  clear hs d k1 k2 k3 ha hv hf he hq
  dsimp only
  go_enter Tryz.func41, Tryz.ntmps41
  go_wp2_with (go_at_call 64; refine HO.out.mono ?_; rintro e w1 ⟨rfl, hb1⟩)
  go_ret
  exact ⟨rfl, HB.out.trans (hb1.mono HB.out.size)⟩
end Go.Proofs.YtpggamapmgpjcaaGreatDoor
