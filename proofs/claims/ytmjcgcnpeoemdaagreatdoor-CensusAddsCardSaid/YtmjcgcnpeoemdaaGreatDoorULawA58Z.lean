/- A part of the claim: see its last text. -/
import Derived.Test.YtmjcgcnpeoemdaaGreatDoorUK30
import Derived.Test.YtmjcgcnpeoemdaaGreatDoorUK31
import Derived.Test.YtmjcgcnpeoemdaaGreatDoorUK48
import Derived.Test.YtmjcgcnpeoemdaaGreatDoorUK47
import Derived.Test.YtmjcgcnpeoemdaaGreatDoorUK34
import Derived.Test.YtmjcgcnpeoemdaaGreatDoorUK35
import Derived.Test.YtmjcgcnpeoemdaaGreatDoorUK21

set_option maxRecDepth 100000
set_option maxHeartbeats 16000000
namespace Go.Proofs.YtmjcgcnpeoemdaaGreatDoor
open Go Go.RowKit Go.Proofs
theorem OBr.rd2 {B : Nat} {w : World} {v : Value} {l : List BrM} (h : OBr B w v l) : ∃ A c, v = .slice A l.length c ∧ l.length ≤ c ∧ c ≤ 9223372036854775807 ∧ RdBr w A l := by
 obtain ⟨A, c, e, hr⟩ := h.rd
 refine ⟨A, c, e, ?_, ?_, hr⟩
 · rcases h.2 with ⟨e2, h0⟩ | ⟨g, cap, cur, e2, _, _, hc, _⟩
   · omega
   · rw [e] at e2; injection e2 with _ _ e3; omega
 · rcases h.2 with ⟨e2, h0⟩ | ⟨g, cap, cur, e2, _, _, hc, hm, _⟩
   · rw [e] at e2; injection e2 with _ _ e3; omega
   · rw [e] at e2; injection e2 with _ _ e3; subst e3; exact hm
def AdS (w w5 : World) (M : Array Value) (W : World) : Prop := MS w M W ∧ Below w5.heap.size w5 W
theorem AdS.grow {w w5 : World} {M : Array Value} {W W2 : World} (s : AdS w w5 M W) (hb : Below W.heap.size W W2) : AdS w w5 M W2 := ⟨s.1.grow hb, s.2.trans (hb.mono s.2.size)⟩
theorem AdS.drew {w w5 : World} {M : Array Value} {W : World} (s : AdS w w5 M W) : AdS w w5 M W.drew := ⟨s.1.drew, s.2.drew⟩
theorem AdS.cells {w w5 : World} {h : MH} {m : Mod} {W : World} (s : AdS w w5 #[.slice h.s m.sT.length h.sc, .slice h.f m.fT.length h.fc, .slice h.r m.rT.length h.rc, .slice h.m m.mT.length h.mc, .slice h.l m.lT.length h.lc, .slice h.i m.iT.length h.ic, .int .i64 m.dT, .int .i64 m.oT, .int .i64 m.vT, .int .i64 m.aT, .slice h.u m.uT.length h.uc] W) : W.cell? ⟨w.heap.size, 0, none⟩ = some (.slice h.s m.sT.length h.sc) ∧ W.cell? ⟨w.heap.size, 1, none⟩ = some (.slice h.f m.fT.length h.fc) ∧ W.cell? ⟨w.heap.size, 2, none⟩ = some (.slice h.r m.rT.length h.rc) ∧ W.cell? ⟨w.heap.size, 3, none⟩ = some (.slice h.m m.mT.length h.mc) ∧ W.cell? ⟨w.heap.size, 4, none⟩ = some (.slice h.l m.lT.length h.lc) ∧ W.cell? ⟨w.heap.size, 5, none⟩ = some (.slice h.i m.iT.length h.ic) ∧ W.cell? ⟨w.heap.size, 6, none⟩ = some (.int .i64 m.dT) ∧ W.cell? ⟨w.heap.size, 7, none⟩ = some (.int .i64 m.oT) ∧ W.cell? ⟨w.heap.size, 8, none⟩ = some (.int .i64 m.vT) ∧ W.cell? ⟨w.heap.size, 9, none⟩ = some (.int .i64 m.aT) ∧ W.cell? ⟨w.heap.size, 10, none⟩ = some (.slice h.u m.uT.length h.uc) := MS.cells s.1
theorem AdS.base {w w5 : World} {M : Array Value} {W : World} (s : AdS w w5 M W) : AdS w W M W := ⟨s.1, Below.refl _ _⟩
structure AdR (w wo : World) (M : Array Value) (bx : Nat) (i kd kr it : Int) (bu ru be re : Nat) (cs : List Value) (W : World) : Prop where
 s : AdS w wo M W
 x : Blk W bx 53 #[.int .i64 i, .int .i64 kd, .int .i64 kr, .int .i64 it]
 u0 : W.cell? ⟨bu, ru, none⟩ = some (.int .i64 kd)
 u1 : W.cell? ⟨bu, ru + 1, none⟩ = some (.int .i64 it)
 ul : bu < W.heap.size
 e : W.rangeAt be re cs
 el : be < W.heap.size
theorem AdR.grow {w wo : World} {M : Array Value} {bx : Nat} {i kd kr it : Int} {bu ru be re : Nat} {cs : List Value} {W W2 : World} (s : AdR w wo M bx i kd kr it bu ru be re cs W) (hb : Below W.heap.size W W2) : AdR w wo M bx i kd kr it bu ru be re cs W2 :=
 ⟨s.s.grow hb, s.x.below hb s.x.lt, (hb.cell (p := ⟨bu, ru, none⟩) s.ul).trans s.u0, (hb.cell (p := ⟨bu, ru + 1, none⟩) s.ul).trans s.u1, Nat.lt_of_lt_of_le s.ul hb.size, range_below s.e hb s.el, Nat.lt_of_lt_of_le s.el hb.size⟩
theorem AdR.drew {w wo : World} {M : Array Value} {bx : Nat} {i kd kr it : Int} {bu ru be re : Nat} {cs : List Value} {W : World} (s : AdR w wo M bx i kd kr it bu ru be re cs W) : AdR w wo M bx i kd kr it bu ru be re cs W.drew := s.grow (Below.refl _ W).drew
theorem AdR.cells {w wo : World} {h : MH} {m : Mod} {bx : Nat} {i kd kr it : Int} {bu ou ru be re : Nat} {cs : List Value} {W : World} (hAu : h.u = some ⟨bu, ou, none⟩) (s : AdR w wo #[.slice h.s m.sT.length h.sc, .slice h.f m.fT.length h.fc, .slice h.r m.rT.length h.rc, .slice h.m m.mT.length h.mc, .slice h.l m.lT.length h.lc, .slice h.i m.iT.length h.ic, .int .i64 m.dT, .int .i64 m.oT, .int .i64 m.vT, .int .i64 m.aT, .slice h.u m.uT.length h.uc] bx i kd kr it bu ru be re cs W) :
    (W.cell? ⟨w.heap.size, 0, none⟩ = some (.slice h.s m.sT.length h.sc) ∧ W.cell? ⟨w.heap.size, 1, none⟩ = some (.slice h.f m.fT.length h.fc) ∧ W.cell? ⟨w.heap.size, 2, none⟩ = some (.slice h.r m.rT.length h.rc) ∧ W.cell? ⟨w.heap.size, 3, none⟩ = some (.slice h.m m.mT.length h.mc) ∧ W.cell? ⟨w.heap.size, 4, none⟩ = some (.slice h.l m.lT.length h.lc) ∧ W.cell? ⟨w.heap.size, 5, none⟩ = some (.slice h.i m.iT.length h.ic) ∧ W.cell? ⟨w.heap.size, 6, none⟩ = some (.int .i64 m.dT) ∧ W.cell? ⟨w.heap.size, 7, none⟩ = some (.int .i64 m.oT) ∧ W.cell? ⟨w.heap.size, 8, none⟩ = some (.int .i64 m.vT) ∧ W.cell? ⟨w.heap.size, 9, none⟩ = some (.int .i64 m.aT) ∧ W.cell? ⟨w.heap.size, 10, none⟩ = some (.slice (some ⟨bu, ou, none⟩) m.uT.length h.uc)) ∧ (W.cell? ⟨bx, 0, none⟩ = some (.int .i64 i) ∧ W.cell? ⟨bx, 1, none⟩ = some (.int .i64 kd) ∧ W.cell? ⟨bx, 2, none⟩ = some (.int .i64 kr) ∧ W.cell? ⟨bx, 3, none⟩ = some (.int .i64 it)) ∧ W.cell? ⟨bu, ru, none⟩ = some (.int .i64 kd) ∧ W.cell? ⟨bu, ru + 1, none⟩ = some (.int .i64 it) := by
 have hc := s.s.cells
 rw [hAu] at hc
 exact ⟨hc, ⟨s.x.cell 0, s.x.cell 1, s.x.cell 2, s.x.cell 3⟩, s.u0, s.u1⟩
def AdI (m : Mod) (r : List EvM) (w w11 : World) (M : Array Value) (n i : Value) (W : World) : Prop := ∃ k : Nat, k ≤ r.length ∧ i = .int .i64 k ∧ n = .int .i64 (((r.take k).filter (countsB m)).length : Nat) ∧ Hid (AdS w w11 M W)
theorem censusAdds_walk (h : MH) (m : Mod) (l r : List EvM) (A A2 : Option Addr) (c c2 : Nat) (w : World) (d : MD w w.heap.size h m) (k1 : m.rT.length ≤ h.rc) (k2 : m.mT.length ≤ h.mc) (k3 : m.lT.length ≤ h.lc)
    (hE : Rows encEv 22 w w.heap.size A l) (hl : l.length ≤ 9223372036854775807) (hE2 : Rows encEv 22 w w.heap.size A2 r) (hr : r.length ≤ 9223372036854775807) (ha : Asc w) (hpw : Pow w) :
    Calls Tryz.prog 3 #[.agg #[.slice h.s m.sT.length h.sc, .slice h.f m.fT.length h.fc, .slice h.r m.rT.length h.rc, .slice h.m m.mT.length h.mc, .slice h.l m.lT.length h.lc, .slice h.i m.iT.length h.ic, .int .i64 m.dT, .int .i64 m.oT, .int .i64 m.vT, .int .i64 m.aT, .slice h.u m.uT.length h.uc], .slice A l.length c, .slice A2 r.length c2] w (fun e w' => e = .returned (.bool true) ∧ Below w.heap.size w w') := by
 have hb := (Below.refl w.heap.size w).alloc (Nat.le_refl _) (.cells #[.slice h.s m.sT.length h.sc, .slice h.f m.fT.length h.fc, .slice h.r m.rT.length h.rc, .slice h.m m.mT.length h.mc, .slice h.l m.lT.length h.lc, .slice h.i m.iT.length h.ic, .int .i64 m.dT, .int .i64 m.oT, .int .i64 m.vT, .int .i64 m.aT, .slice h.u m.uT.length h.uc] 29)
 have HB := hide hb
 have HM0 := hide (Blk.new w 29 #[.slice h.s m.sT.length h.sc, .slice h.f m.fT.length h.fc, .slice h.r m.rT.length h.rc, .slice h.m m.mT.length h.mc, .slice h.l m.lT.length h.lc, .slice h.i m.iT.length h.ic, .int .i64 m.dT, .int .i64 m.oT, .int .i64 m.vT, .int .i64 m.aT, .slice h.u m.uT.length h.uc])
 have HF1 := hide (few58_ref h m l A c 25 _ (d.grow hb) (hE.grow hb) hl)
 have HF2 := hide (fun W (hW : Below w.heap.size w W) => few58_ref h m r A2 c2 25 W (d.grow hW) (hE2.grow hW) hr)
 have HAW := hide (fun W (hW : Below w.heap.size w W) => awake58 W (ha.below (Nat.le_refl _) hW) (hpw.below (Nat.le_refl _) hW))
 have HD := hide (fun W (hW : Below w.heap.size w W) => And.intro (d.grow hW) (And.intro (hE.grow hW) (hE2.grow hW)))
 have HE := hide (And.intro hE hE2)
 have HA := hide ha
 have HK := hide (And.intro k1 (And.intro k2 k3))
 clear hb d k1 k2 k3 hE hE2 ha hpw hl hr
 go_enter Tryz.func3, Tryz.ntmps3
 go_wp2_with (first
  | (go_at_call 5; (with_reducible refine HF1.out.mono ?_); rintro e w1 ⟨b, rfl, hb1, hq⟩
     have hm1 := HM0.out.below hb1 (by simp)
     obtain ⟨a0, a1, a2, a3, a4, a5, a6, a7, a8, a9, a10⟩ := MB.cells hm1
     have lt1 := hm1.lt
     have HB1 := hide (HB.out.trans (hb1.mono (by simp)))
     have HM1 := hide hm1
     have HQ := hide hq
     clear hm1 hb1 hq
     cases b)
  | (go_at_call 5; (with_reducible refine (HF2.out _ HB1.out).mono ?_); rintro e w3 ⟨b2, rfl, hb3, hq3⟩
     have hm3 := HM1.out.below hb3 HM1.out.lt
     obtain ⟨g0, g1, g2, g3, g4, g5, g6, g7, g8, g9, g10⟩ := MB.cells hm3
     have lt3 := hm3.lt
     have HB3 := hide (HB1.out.trans (hb3.mono HB1.out.size))
     have HM3 := hide hm3
     have HQ3 := hide hq3
     clear hm3 hb3 hq3
     cases b2)
  | (go_at_call 6; (with_reducible refine (HAW.out _ HB1.out).mono ?_); rintro e w2 ⟨rfl, hb2⟩
     have HB2 := hide (HB1.out.trans (hb2.mono HB1.out.size))
     clear hb2)
  | (go_at_call 6; (with_reducible refine (HAW.out _ HB3.out).mono ?_); rintro e w2 ⟨rfl, hb2⟩
     have HB2 := hide (HB3.out.trans (hb2.mono HB3.out.size))
     clear hb2)
  | (at_builtin
     have hl1 := (HQ.out trivial).2.1
     have hl2 := (HQ3.out trivial).2.1
     have hba := (Below.refl w3.heap.size w3).alloc (Nat.le_refl _) (.cells #[] 50)
     have HO0 := hide (OwnRv.empty w3 w.heap.size)
     have HB4 := hide (HB3.out.trans (hba.mono HB3.out.size))
     refine append_rows rfl _ _ rfl w3.heap.size w.heap.size _ [] rfl HO0.out _ _ _ l rfl rfl (HE.out.1.below HB4.out) (by simp; omega) (by simp) HB3.out.size ?_
     intro v4 w4 ho4 hg4 hv4
     clear hv4
     have HB34 := hide (hba.grown hg4 (by simp) (fun g e => (HO0.out.lt g e).1))
     have HB5 := hide (HB3.out.trans (HB34.out.mono HB3.out.size))
     have HO4 := hide (show OwnRv w3.heap.size w.heap.size w4 v4 l from ho4)
     clear ho4 hg4 hba)
  | (at_builtin
     refine append_rows rfl _ _ rfl w3.heap.size w.heap.size v4 l rfl HO4.out _ _ _ r rfl rfl (HE.out.2.below HB5.out) (by have := (HQ.out trivial).2.1; have := (HQ3.out trivial).2.1; omega) HB34.out.size HB3.out.size ?_
     intro v5 w5 ho5 hg5 hv5
     clear hv5
     have hb35 := HB34.out.grown hg5 HB34.out.size (fun g e => (HO4.out.lt g e).1)
     have HS5 := hide (show AdS w w5 #[.slice h.s m.sT.length h.sc, .slice h.f m.fT.length h.fc, .slice h.r m.rT.length h.rc, .slice h.m m.mT.length h.mc, .slice h.l m.lT.length h.lc, .slice h.i m.iT.length h.ic, .int .i64 m.dT, .int .i64 m.oT, .int .i64 m.vT, .int .i64 m.aT, .slice h.u m.uT.length h.uc] w5 from ⟨MS.mk (HM3.out.below hb35 HM3.out.lt) (HB3.out.trans (hb35.mono HB3.out.size)), Below.refl _ _⟩)
     obtain ⟨al, hal⟩ : ∃ al, al = l ++ r := ⟨_, rfl⟩
     rw [← hal] at ho5
     obtain ⟨A5, c5, rfl, hlc5, hcm5, hR5⟩ := ho5.rows HS5.out.1.b.size
     have HR5 := hide hR5
     have HAL := hide hal
     clear hR5 ho5 hg5 hb35 hlc5 hcm5 hal))
 · go_ret
   exact ⟨rfl, HB2.out⟩
 · go_ret
   exact ⟨rfl, HB2.out⟩
 · clear HO4 HB34 HO0 HB4 HB5 a0 a1 a2 a3 a4 a5 a6 a7 a8 a9 a10 lt1 g0 g1 g2 g3 g4 g5 g6 g7 g8 g9 g10 lt3 HF1 HF2
   obtain ⟨hv, hl25, hold⟩ := HQ.out trivial
   obtain ⟨-, hr25, hold2⟩ := HQ3.out trivial
   obtain ⟨s1, s2, s3, s4, s5, s6⟩ := valid_sizes hv
   have hold3 : ∀ x ∈ al, x.old.length ≤ 10 := fun x hx => (List.mem_append.1 (by rw [← HAL.out]; exact hx)).elim (hold x) (hold2 x)
   have hall : al.length = l.length + r.length := by rw [HAL.out, List.length_append]
   have HV := hide hv
   have HDW := hide (fun W (hW : Below w5.heap.size w5 W) => (HS5.out.1.b.trans (hW.mono HS5.out.1.b.size) : Below w.heap.size w W))
   have HP := hide (fun W (hW : Below w5.heap.size w5 W) => placements_prog h m l A c W (HD.out W (HDW.out W hW)).1 HK.out.1 HK.out.2.1 HK.out.2.2 (HA.out.below (Nat.le_refl _) (HDW.out W hW)) hv (HD.out W (HDW.out W hW)).2.1 (by omega) (by omega) (fun y hy => by have := valid_on hv hy; omega) (by omega) hold)
   have HP2 := hide (fun W (hW : Below w5.heap.size w5 W) => placements_prog h m al A5 c5 W (HD.out W (HDW.out W hW)).1 HK.out.1 HK.out.2.1 HK.out.2.2 (HA.out.below (Nat.le_refl _) (HDW.out W hW)) hv (HR5.out.grow hW) (by omega) (by omega) (fun y hy => by have := valid_on hv hy; omega) (by omega) hold3)
   have HBR := hide (fun W (hW : Below w5.heap.size w5 W) => breaches_prog h m l A c W (valid_brc (HD.out W (HDW.out W hW)).1 hv) HK.out.1 HK.out.2.1 HK.out.2.2 (HA.out.below (Nat.le_refl _) (HDW.out W hW)) hv (HD.out W (HDW.out W hW)).2.1 (by omega) hold)
   have HBR2 := hide (fun W (hW : Below w5.heap.size w5 W) => breaches_prog h m al A5 c5 W (valid_brc (HD.out W (HDW.out W hW)).1 hv) HK.out.1 HK.out.2.1 HK.out.2.2 (HA.out.below (Nat.le_refl _) (HDW.out W hW)) hv (HR5.out.grow hW) (by omega) hold3)
   have HSH := hide (short_places (m := m) (l := l) (by omega) (fun y hy => by have := valid_on hv hy; omega) hold (by omega) l.length (Nat.le_refl _))
   rw [List.take_length] at HSH
   have hPl := places_len m l
   have hQl := places_len m al
   have hBl := breachesM_len (m := m) (l := l) (by omega) (by omega)
   have hCl := breachesM_len (m := m) (l := al) (by omega) (by omega)
   obtain ⟨P, hP⟩ : ∃ P, P = placesM m l := ⟨_, rfl⟩
   obtain ⟨P2, hP2⟩ : ∃ P2, P2 = placesGo m (placeAt m l l.length) r := ⟨_, rfl⟩
   obtain ⟨Q, hQ⟩ : ∃ Q, Q = placesM m al := ⟨_, rfl⟩
   obtain ⟨Ba, hBa⟩ : ∃ Ba, Ba = breachesM m l := ⟨_, rfl⟩
   obtain ⟨B2, hB2⟩ : ∃ B2, B2 = moreBrks m l r := ⟨_, rfl⟩
   obtain ⟨Bb, hBb⟩ : ∃ Bb, Bb = breachesM m al := ⟨_, rfl⟩
   have HQE := hide (show Q = P ++ P2 by rw [hQ, hP, hP2, HAL.out]; exact placesM_add m l r)
   have HBE := hide (show Bb = Ba ++ B2 by rw [hBb, hBa, hB2, HAL.out]; exact breachesM_add m l r)
   have HB2I := hide (show ∀ x ∈ B2, BrkAdd m l.length al x from fun x hx => by rw [hB2] at hx; rw [HAL.out]; exact moreBrks_is hx)
   have HP2L := hide (show P2.length = (r.filter (countsB m)).length by rw [hP2]; exact placesGo_count m r _)
   rw [← hP] at HP HSH hPl
   rw [← hQ] at HP2 hQl
   rw [← hBa] at HBR hBl
   rw [← hBb] at HBR2 hCl
   have hn1 : l.length ≤ 25 := by omega
   have hn2 : r.length ≤ 25 := by omega
   have hQP : P.length ≤ Q.length := by rw [HQE.out]; simp
   have hBB : Ba.length ≤ Bb.length := by rw [HBE.out]; simp
   have hal50 : al.length ≤ 50 := by omega
   have hQ60 : Q.length ≤ 60 := by omega
   clear hall HQ HQ3 hv hl25 hold hr25 hold2 hold3 s1 s2 s3 s4 s5 s6 hP hP2 hQ hBa hB2 hBb hPl hQl
   go_region_held3 (fun W => (W.cell? ⟨w.heap.size, 0, none⟩ = some (.slice h.s m.sT.length h.sc) ∧ W.cell? ⟨w.heap.size, 1, none⟩ = some (.slice h.f m.fT.length h.fc) ∧ W.cell? ⟨w.heap.size, 2, none⟩ = some (.slice h.r m.rT.length h.rc) ∧ W.cell? ⟨w.heap.size, 3, none⟩ = some (.slice h.m m.mT.length h.mc) ∧ W.cell? ⟨w.heap.size, 4, none⟩ = some (.slice h.l m.lT.length h.lc) ∧ W.cell? ⟨w.heap.size, 5, none⟩ = some (.slice h.i m.iT.length h.ic) ∧ W.cell? ⟨w.heap.size, 6, none⟩ = some (.int .i64 m.dT) ∧ W.cell? ⟨w.heap.size, 7, none⟩ = some (.int .i64 m.oT) ∧ W.cell? ⟨w.heap.size, 8, none⟩ = some (.int .i64 m.vT) ∧ W.cell? ⟨w.heap.size, 9, none⟩ = some (.int .i64 m.aT) ∧ W.cell? ⟨w.heap.size, 10, none⟩ = some (.slice h.u m.uT.length h.uc)) ∧ AdS w w5 #[.slice h.s m.sT.length h.sc, .slice h.f m.fT.length h.fc, .slice h.r m.rT.length h.rc, .slice h.m m.mT.length h.mc, .slice h.l m.lT.length h.lc, .slice h.i m.iT.length h.ic, .int .i64 m.dT, .int .i64 m.oT, .int .i64 m.vT, .int .i64 m.aT, .slice h.u m.uT.length h.uc] W)
    ((with_reducible (first | (go_keep; done) | exact ⟨AdS.cells HS5.out.drew, HS5.out.drew⟩ | exact ⟨AdS.cells c7, c7⟩ | exact ⟨AdS.cells c6, c6⟩ | (have hH := (by assumption : _ ∧ AdS _ _ _ _); exact ⟨AdS.cells (AdS.drew hH.2), AdS.drew hH.2⟩))))
    ((first
      | (go_at_call 7; have hbw := HS5.out.drew.2; (with_reducible refine (HP.out _ hbw).mono ?_); rintro e w6 ⟨A6, q6, rfl, hc6, hm6, hp6, hb⟩; have c6 := AdS.grow HS5.out.drew hb; clear hb)
      | (go_at_call 7; have hbw := c6.2; (with_reducible refine (HP2.out _ hbw).mono ?_); rintro e w7 ⟨A7, q7, rfl, hc7, hm7, hp7, hb⟩; have hp67 := hp6.grow hb; have c7 := AdS.grow c6 hb; clear hb)))
   have HS7 := hide c7.base
   have HB57 := hide c7.2
   have HR7 := hide (HR5.out.grow HB57.out)
   have HPS := hide (And.intro hp67 hp7)
   have HBR7 := hide (fun W (hW : Below w7.heap.size w7 W) => HBR.out W (HB57.out.trans (hW.mono HB57.out.size)))
   have HBR8 := hide (fun W (hW : Below w7.heap.size w7 W) => HBR2.out W (HB57.out.trans (hW.mono HB57.out.size)))
   have hPc : (P.length : Int) ≤ (q7 : Int) := by omega
   clear HP HP2 HBR HBR2 hp6 hp67 hp7 c6 c7 hc6 hm6 hc7 hm7
   go_wp2_with fail
   go_region_held3 (fun W => (W.cell? ⟨w.heap.size, 0, none⟩ = some (.slice h.s m.sT.length h.sc) ∧ W.cell? ⟨w.heap.size, 1, none⟩ = some (.slice h.f m.fT.length h.fc) ∧ W.cell? ⟨w.heap.size, 2, none⟩ = some (.slice h.r m.rT.length h.rc) ∧ W.cell? ⟨w.heap.size, 3, none⟩ = some (.slice h.m m.mT.length h.mc) ∧ W.cell? ⟨w.heap.size, 4, none⟩ = some (.slice h.l m.lT.length h.lc) ∧ W.cell? ⟨w.heap.size, 5, none⟩ = some (.slice h.i m.iT.length h.ic) ∧ W.cell? ⟨w.heap.size, 6, none⟩ = some (.int .i64 m.dT) ∧ W.cell? ⟨w.heap.size, 7, none⟩ = some (.int .i64 m.oT) ∧ W.cell? ⟨w.heap.size, 8, none⟩ = some (.int .i64 m.vT) ∧ W.cell? ⟨w.heap.size, 9, none⟩ = some (.int .i64 m.aT) ∧ W.cell? ⟨w.heap.size, 10, none⟩ = some (.slice h.u m.uT.length h.uc)) ∧ AdS w w7 #[.slice h.s m.sT.length h.sc, .slice h.f m.fT.length h.fc, .slice h.r m.rT.length h.rc, .slice h.m m.mT.length h.mc, .slice h.l m.lT.length h.lc, .slice h.i m.iT.length h.ic, .int .i64 m.dT, .int .i64 m.oT, .int .i64 m.vT, .int .i64 m.aT, .slice h.u m.uT.length h.uc] W)
    ((with_reducible (first | (go_keep; done) | exact ⟨AdS.cells HS7.out.drew, HS7.out.drew⟩ | exact ⟨AdS.cells c9, c9⟩ | exact ⟨AdS.cells c8, c8⟩ | (have hH := (by assumption : _ ∧ AdS _ _ _ _); exact ⟨AdS.cells (AdS.drew hH.2), AdS.drew hH.2⟩))))
    ((first
      | (go_at_call 8; have hbw := HS7.out.drew.2; (with_reducible refine (HBR7.out _ hbw).mono ?_); rintro e w8 ⟨v8, rfl, ho8, hb⟩; obtain ⟨A8, q8, rfl, hc8, hm8, hr8⟩ := ho8.rd2; have c8 := AdS.grow HS7.out.drew hb; clear hb ho8)
      | (go_at_call 8; have hbw := c8.2; (with_reducible refine (HBR8.out _ hbw).mono ?_); rintro e w9 ⟨v9, rfl, ho9, hb⟩; obtain ⟨A9, q9, rfl, hc9, hm9, hr9⟩ := ho9.rd2; have hr89 := hr8.grow hb; have c9 := AdS.grow c8 hb; clear hb ho9)))
   have HS9 := hide c9.base
   have HB79 := hide c9.2
   have HR9 := hide (HR7.out.grow HB79.out)
   have HRD := hide (And.intro hr89 hr9)
   have HPS9 := hide (And.intro (HPS.out.1.grow HB79.out) (HPS.out.2.grow HB79.out))
   have hBc : (Ba.length : Int) ≤ (q9 : Int) := by omega
   have HQ9 := hide hc9
   have HSP := hide (fun W (hW : Below w9.heap.size w9 W) => samePlaces_ref A7 A6 q7 q6 P W ((PsR.pre (by rw [← HQE.out]; exact HPS9.out.2)).grow hW) (HPS9.out.1.grow hW) HSH.out (by omega))
   have HSB := hide (fun W (hW : Below w9.heap.size w9 W) => sameBrs_ref A9 A8 q9 q8 Ba W ((RdBr.pre (by rw [← HBE.out]; exact HRD.out.2)).grow hW) (HRD.out.1.grow hW) (by omega))
   have g1 : decide (Q.length < P.length) = false := by simp; omega
   have g2 : decide (Bb.length < Ba.length) = false := by simp; omega
   have hBBI : (Ba.length : Int) ≤ (Bb.length : Int) := by omega
   clear HPS HBR7 HBR8 hr8 hr89 hr9 c8 c9 hc8 hm8 hc9 hm9 HDW HS5 HS7 HB57 HB79
   go_wp2_with (first
    | (go_at_call 9; (with_reducible refine (HSP.out _ (Below.refl _ _)).mono ?_); rintro e w10 ⟨rfl, hb10⟩; have HB10 := hide hb10; clear hb10)
    | (go_at_call 10; have hbw := HB10.out; (with_reducible refine (HSB.out _ hbw).mono ?_); rintro e w11 ⟨rfl, hb11⟩
       have HB911 := hide (hbw.trans (hb11.mono hbw.size))
       have HS11 := hide (HS9.out.grow HB911.out).base
       clear hbw hb11))
   have HRD11 := hide (HRD.out.2.grow HB911.out)
   have HR11 := hide (HR9.out.grow HB911.out)
   clear HR5 HR7 HR9
   clear HSP HSB HRD HPS9 HS9 HB10 HB911 HSH g1 g2 hPc
   go_loopw [12, 77] (fun n i wr => AdI m r w w11 #[.slice h.s m.sT.length h.sc, .slice h.f m.fT.length h.fc, .slice h.r m.rT.length h.rc, .slice h.m m.mT.length h.mc, .slice h.l m.lT.length h.lc, .slice h.i m.iT.length h.ic, .int .i64 m.dT, .int .i64 m.oT, .int .i64 m.vT, .int .i64 m.aT, .slice h.u m.uT.length h.uc] n i wr) (fun _ i _ => r.length - (intOf i).toNat)
   case atStart => exact ⟨0, Nat.zero_le _, rfl, rfl, HS11⟩
   case round =>
    obtain ⟨k, hk, rfl, rfl, hS⟩ := hrel
    by_cases hlt : k < r.length
    · obtain ⟨x, hx⟩ : ∃ x, r[k] = x := ⟨_, rfl⟩
      have hbw := hS.out.1.b
      obtain ⟨b, off, j, hAe, hb, ho1, ho2, hoI, hc⟩ := (HD.out wr hbw).2.2.evRange hlt hx
      have hbl := hb
      have hba : Below wr.heap.size wr (wr.alloc (.cells #[.int .i64 x.kind, .int .i64 x.mach, .int .i64 j.v2, .int .i64 j.v3, .int .i64 x.group, .int .i64 j.v5, .string j.v6, .int .i64 j.v7, .int .i64 j.v8, .int .i64 j.v9, .bool j.v10, .int .i64 j.v11, .slice j.A x.old.length j.c, .slice j.A13 j.n13 j.c13, .slice j.A14 j.n14 j.c14, .int .i64 x.hitem, .int .i64 j.v16, .int .i64 x.hstate, .int .i64 j.v18, .int .i64 j.v19, .bool x.gone, .int .i64 x.outcome] 50)) := (Below.refl _ _).alloc (Nat.le_refl _) _
      have HSX := hide (hS.out.grow hba)
      have HC := hide (counts_ref h m x j (wr.alloc (.cells #[.int .i64 x.kind, .int .i64 x.mach, .int .i64 j.v2, .int .i64 j.v3, .int .i64 x.group, .int .i64 j.v5, .string j.v6, .int .i64 j.v7, .int .i64 j.v8, .int .i64 j.v9, .bool j.v10, .int .i64 j.v11, .slice j.A x.old.length j.c, .slice j.A13 j.n13 j.c13, .slice j.A14 j.n14 j.c14, .int .i64 x.hitem, .int .i64 j.v16, .int .i64 x.hstate, .int .i64 j.v18, .int .i64 j.v19, .bool x.gone, .int .i64 x.outcome] 50)) (HD.out _ HSX.out.1.b).1 (fun y hy => valid_kind HV.out hy))
      have HCR := hide hc
      have HLT := hide hlt
      have HFT := filter_take_succ (countsB m) r hlt
      have hcl : ((r.take k).filter (countsB m)).length ≤ 25 := by have := List.length_filter_le (countsB m) (r.take k); simp at this; omega
      obtain ⟨N, hN⟩ : ∃ N, N = ((r.take k).filter (countsB m)).length := ⟨_, rfl⟩
      rw [← hN] at HFT hcl ⊢
      rw [hx] at HFT
      have HFT := hide HFT
      have hkI : (k : Int) < (r.length : Int) := by omega
      obtain ⟨a0, a1, a2, a3, a4, a5, a6, a7, a8, a9, a10⟩ := MB.cells HSX.out.1.m
      have aml := HSX.out.1.m.lt
      subst hAe
      clear hc hx hba hbw ho1 ho2 hoI hN
      cases hcb : countsB m x
      · rw [hcb] at HC HFT
        go_wp2_with (first
         | (refine wpList_load_mid (op := ⟨some 80, _, _, _, _, _⟩) rfl 50 _ rfl b (off + k * 22) rfl [.int .i64 x.kind, .int .i64 x.mach, .int .i64 j.v2, .int .i64 j.v3, .int .i64 x.group, .int .i64 j.v5, .string j.v6, .int .i64 j.v7, .int .i64 j.v8, .int .i64 j.v9, .bool j.v10, .int .i64 j.v11, .slice j.A x.old.length j.c, .slice j.A13 j.n13 j.c13, .slice j.A14 j.n14 j.c14, .int .i64 x.hitem, .int .i64 j.v16, .int .i64 x.hstate, .int .i64 j.v18, .int .i64 j.v19, .bool x.gone, .int .i64 x.outcome] _ HCR.out Tryz.underlying50 rfl sizeEv ?_)
         | (refine wpList_store_row (o := ⟨none, .store 50 _ _, _, _, _, _⟩) rfl 50 _ _ rfl wr.heap.size #[.int .i64 x.kind, .int .i64 x.mach, .int .i64 j.v2, .int .i64 j.v3, .int .i64 x.group, .int .i64 j.v5, .string j.v6, .int .i64 j.v7, .int .i64 j.v8, .int .i64 j.v9, .bool j.v10, .int .i64 j.v11, .slice j.A x.old.length j.c, .slice j.A13 j.n13 j.c13, .slice j.A14 j.n14 j.c14, .int .i64 x.hitem, .int .i64 j.v16, .int .i64 x.hstate, .int .i64 j.v18, .int .i64 j.v19, .bool x.gone, .int .i64 x.outcome] rfl rfl 50 _ (heap_alloc_last wr _) sizeEv rfl (ev_one x j) ?_; rw [World.setRow_alloc_new])
         | (refine wpList_load_row (o := ⟨some 82, _, _, _, _, _⟩) rfl 50 _ rfl wr.heap.size rfl 50 #[.int .i64 x.kind, .int .i64 x.mach, .int .i64 j.v2, .int .i64 j.v3, .int .i64 x.group, .int .i64 j.v5, .string j.v6, .int .i64 j.v7, .int .i64 j.v8, .int .i64 j.v9, .bool j.v10, .int .i64 j.v11, .slice j.A x.old.length j.c, .slice j.A13 j.n13 j.c13, .slice j.A14 j.n14 j.c14, .int .i64 x.hitem, .int .i64 j.v16, .int .i64 x.hstate, .int .i64 j.v18, .int .i64 j.v19, .bool x.gone, .int .i64 x.outcome] (0, 0) _ (heap_alloc_last wr _) Tryz.underlying50 rfl sizeEv ?_)
         | ((with_reducible refine HC.out.mono ?_); rintro e17 w17 ⟨rfl, hb7⟩))
        go_roundw
        case rel => exact ⟨k + 1, HLT.out, by go_num, by rw [HFT.out]; rfl, hide (HSX.out.grow hb7)⟩
        case measure => have := HLT.out; simp [intOf]; omega
      · rw [hcb] at HC HFT
        go_wp2_with (first
         | (refine wpList_load_mid (op := ⟨some 80, _, _, _, _, _⟩) rfl 50 _ rfl b (off + k * 22) rfl [.int .i64 x.kind, .int .i64 x.mach, .int .i64 j.v2, .int .i64 j.v3, .int .i64 x.group, .int .i64 j.v5, .string j.v6, .int .i64 j.v7, .int .i64 j.v8, .int .i64 j.v9, .bool j.v10, .int .i64 j.v11, .slice j.A x.old.length j.c, .slice j.A13 j.n13 j.c13, .slice j.A14 j.n14 j.c14, .int .i64 x.hitem, .int .i64 j.v16, .int .i64 x.hstate, .int .i64 j.v18, .int .i64 j.v19, .bool x.gone, .int .i64 x.outcome] _ HCR.out Tryz.underlying50 rfl sizeEv ?_)
         | (refine wpList_store_row (o := ⟨none, .store 50 _ _, _, _, _, _⟩) rfl 50 _ _ rfl wr.heap.size #[.int .i64 x.kind, .int .i64 x.mach, .int .i64 j.v2, .int .i64 j.v3, .int .i64 x.group, .int .i64 j.v5, .string j.v6, .int .i64 j.v7, .int .i64 j.v8, .int .i64 j.v9, .bool j.v10, .int .i64 j.v11, .slice j.A x.old.length j.c, .slice j.A13 j.n13 j.c13, .slice j.A14 j.n14 j.c14, .int .i64 x.hitem, .int .i64 j.v16, .int .i64 x.hstate, .int .i64 j.v18, .int .i64 j.v19, .bool x.gone, .int .i64 x.outcome] rfl rfl 50 _ (heap_alloc_last wr _) sizeEv rfl (ev_one x j) ?_; rw [World.setRow_alloc_new])
         | (refine wpList_load_row (o := ⟨some 82, _, _, _, _, _⟩) rfl 50 _ rfl wr.heap.size rfl 50 #[.int .i64 x.kind, .int .i64 x.mach, .int .i64 j.v2, .int .i64 j.v3, .int .i64 x.group, .int .i64 j.v5, .string j.v6, .int .i64 j.v7, .int .i64 j.v8, .int .i64 j.v9, .bool j.v10, .int .i64 j.v11, .slice j.A x.old.length j.c, .slice j.A13 j.n13 j.c13, .slice j.A14 j.n14 j.c14, .int .i64 x.hitem, .int .i64 j.v16, .int .i64 x.hstate, .int .i64 j.v18, .int .i64 j.v19, .bool x.gone, .int .i64 x.outcome] (0, 0) _ (heap_alloc_last wr _) Tryz.underlying50 rfl sizeEv ?_)
         | ((with_reducible refine HC.out.mono ?_); rintro e17 w17 ⟨rfl, hb7⟩))
        go_roundw
        case rel => exact ⟨k + 1, HLT.out, by go_num, by rw [HFT.out]; go_num, hide (HSX.out.grow hb7)⟩
        case measure => have := HLT.out; simp [intOf]; omega
    · obtain rfl : k = r.length := by omega
      rw [List.take_length, ← HP2L.out]
      have g3 : ((Q.length : Int) != (P.length : Int) + (P2.length : Int)) = false := by rw [HQE.out]; simp
      have hp2b : P2.length ≤ 60 := by have h9 := hQ60; rw [HQE.out] at h9; simp at h9; omega
      obtain ⟨wo, rfl⟩ : ∃ wo : World, wo = wr := ⟨_, rfl⟩
      have HS12 := hide hS.out.base
      have HRD12 := hide (HRD11.out.grow hS.out.2)
      have HR12 := hide (HR11.out.grow hS.out.2)
      clear hS HRD11
      go_upto_region 17 with fail
      go_cut [97, 98, 99] from 94 (fun u v y wx => (∃ A10 c10, u = .slice A10 B2.length c10 ∧ v = .int .i64 B2.length ∧ y = .int .i64 0 ∧ RdBr wo A10 B2) ∧ Below wo.heap.size wo wx)
      case first =>
       have hlen : Bb.length - Ba.length = B2.length := by rw [HBE.out]; simp
       by_cases hq9 : q9 = Ba.length
       · have HB0 := hide (show B2 = [] from List.eq_nil_of_length_eq_zero (by have := HQ9.out; omega))
         go_wp2_with fail
         go_meet
         exact ⟨⟨_, _, rfl, rfl, rfl, by rw [HB0.out]; exact fun k hk => absurd hk (by simp)⟩, Below.refl _ _⟩
       · have HRC := hide (show RdBr wo (A9.map (·.add (Ba.length * 4))) B2 from RdBr.cut (by rw [← HBE.out]; exact HRD12.out))
         go_wp2_with fail
         go_meet
         exact ⟨⟨_, _, rfl, rfl, rfl, HRC.out⟩, Below.refl _ _⟩
      case rest =>
       obtain ⟨⟨A10, c10, rfl, rfl, rfl, hr10⟩, hbx⟩ := hcut
       have HR10 := hide (hr10.grow hbx)
       have HS13 := hide (HS12.out.grow hbx).base
       have HR13 := hide (HR12.out.grow hbx)
       clear hr10 hbx
       have hb2l : B2.length ≤ 6000 := by have h9 := hCl; rw [HBE.out] at h9; simp at h9; omega
       clear hBl hCl hBB hBBI hBc g3
       go_wp2_with fail
       go_loopw [99] (fun iv wr => ∃ k : Nat, k ≤ B2.length ∧ iv = .int .i64 k ∧ Hid (AdS w wc #[.slice h.s m.sT.length h.sc, .slice h.f m.fT.length h.fc, .slice h.r m.rT.length h.rc, .slice h.m m.mT.length h.mc, .slice h.l m.lT.length h.lc, .slice h.i m.iT.length h.ic, .int .i64 m.dT, .int .i64 m.oT, .int .i64 m.vT, .int .i64 m.aT, .slice h.u m.uT.length h.uc] wr)) (fun i _ => B2.length - (intOf i).toNat)
       case atStart => exact ⟨0, Nat.zero_le _, rfl, HS13⟩
       case round =>
        obtain ⟨k, hk, rfl, hS⟩ := hrel
        by_cases hlt : k < B2.length
        · obtain ⟨b10, o10, hA10, hb10, y0, y1, y2, y3⟩ := (HR10.out.grow hS.out.2) k hlt
          obtain ⟨i, hi, q, hq, hni, hct, hxe⟩ := HB2I.out _ (List.getElem_mem hlt)
          rw [hxe] at y0 y1 y2 y3
          obtain ⟨x, hx⟩ : ∃ x, al[i] = x := ⟨_, rfl⟩
          have hbw := hS.out.1.b
          obtain ⟨bu, ou, Au, cu, hAu, hbu, u0, u1, -, -, -, -, -, -⟩ := (HD.out wr hbw).1.dU.rule hq
          obtain ⟨be, oe, j, hAe, hbe, -, -, -, he⟩ := (HR13.out.grow hS.out.2).evRange hi hx
          obtain ⟨KD, hKD⟩ : ∃ KD, KD = m.uT[q].kind := ⟨_, rfl⟩
          obtain ⟨IT, hIT⟩ : ∃ IT, IT = m.uT[q].item := ⟨_, rfl⟩
          dsimp only at y0 y1 y2 y3
          rw [← hKD] at y1 u0
          rw [← hIT] at y3 u1
          have hba : Below wr.heap.size wr (wr.alloc (.cells #[.int .i64 (i : Int), .int .i64 KD, .int .i64 ((q : Int) + 1), .int .i64 IT] 53)) := (Below.refl _ _).alloc (Nat.le_refl _) _
          have HX := hide (show AdR w wc #[.slice h.s m.sT.length h.sc, .slice h.f m.fT.length h.fc, .slice h.r m.rT.length h.rc, .slice h.m m.mT.length h.mc, .slice h.l m.lT.length h.lc, .slice h.i m.iT.length h.ic, .int .i64 m.dT, .int .i64 m.oT, .int .i64 m.vT, .int .i64 m.aT, .slice h.u m.uT.length h.uc] wr.heap.size (i : Int) KD ((q : Int) + 1) IT bu (ou + q * 7) be (oe + i * 22) [.int .i64 x.kind, .int .i64 x.mach, .int .i64 j.v2, .int .i64 j.v3, .int .i64 x.group, .int .i64 j.v5, .string j.v6, .int .i64 j.v7, .int .i64 j.v8, .int .i64 j.v9, .bool j.v10, .int .i64 j.v11, .slice j.A x.old.length j.c, .slice j.A13 j.n13 j.c13, .slice j.A14 j.n14 j.c14, .int .i64 x.hitem, .int .i64 j.v16, .int .i64 x.hstate, .int .i64 j.v18, .int .i64 j.v19, .bool x.gone, .int .i64 x.outcome] (wr.alloc (.cells #[.int .i64 (i : Int), .int .i64 KD, .int .i64 ((q : Int) + 1), .int .i64 IT] 53)) from ⟨hS.out.grow hba, Blk.new _ _ _, (hba.cell (p := ⟨bu, ou + q * 7, none⟩) hbu).trans u0, (hba.cell (p := ⟨bu, ou + q * 7 + 1, none⟩) hbu).trans u1, Nat.lt_of_lt_of_le hbu hba.size, range_below he hba hbe, Nat.lt_of_lt_of_le hbe hba.size⟩)
          have HCW := hide (fun W (hW : Below w.heap.size w W) => counts_ref h m x j W (HD.out W hW).1 (fun y hy => valid_kind HV.out hy))
          rw [hx] at hct
          rw [hct, hAu] at HCW
          have HAU := hide hAu
          have HLT := hide hlt
          have hrl : m.uT.length ≤ 40 := by obtain ⟨z1, z2, z3, z4, z5, z6⟩ := valid_sizes HV.out; omega
          have e1 : decide (i < l.length) = false := by simp; omega
          have e2 : decide (al.length ≤ i) = false := by simp; omega
          have e3 : decide ((q : Int) + 1 < 1) = false := by simp; omega
          have e4 : decide ((m.uT.length : Int) < (q : Int) + 1) = false := by simp; omega
          have hiI : (i : Int) < (al.length : Int) := by omega
          have hqI : (q : Int) < (m.uT.length : Int) := by omega
          have hkI : (k : Int) < (B2.length : Int) := by omega
          have hwq : IntKind.i64.wrap (q : Int) = (q : Int) := by rw [IntKind.wrap_i64]; omega
          subst hA10 hAe
          rw [hAu]
          clear hxe hx hAu u0 u1 he hbu hbe hba hKD hIT hct hbw hlt
          go_wp2_with fail
          refine wp_region_held_drew (S := (fun W => ((W.cell? ⟨w.heap.size, 0, none⟩ = some (.slice h.s m.sT.length h.sc) ∧ W.cell? ⟨w.heap.size, 1, none⟩ = some (.slice h.f m.fT.length h.fc) ∧ W.cell? ⟨w.heap.size, 2, none⟩ = some (.slice h.r m.rT.length h.rc) ∧ W.cell? ⟨w.heap.size, 3, none⟩ = some (.slice h.m m.mT.length h.mc) ∧ W.cell? ⟨w.heap.size, 4, none⟩ = some (.slice h.l m.lT.length h.lc) ∧ W.cell? ⟨w.heap.size, 5, none⟩ = some (.slice h.i m.iT.length h.ic) ∧ W.cell? ⟨w.heap.size, 6, none⟩ = some (.int .i64 m.dT) ∧ W.cell? ⟨w.heap.size, 7, none⟩ = some (.int .i64 m.oT) ∧ W.cell? ⟨w.heap.size, 8, none⟩ = some (.int .i64 m.vT) ∧ W.cell? ⟨w.heap.size, 9, none⟩ = some (.int .i64 m.aT) ∧ W.cell? ⟨w.heap.size, 10, none⟩ = some (.slice (some ⟨bu, ou, none⟩) m.uT.length h.uc)) ∧ (W.cell? ⟨wr.heap.size, 0, none⟩ = some (.int .i64 (i : Int)) ∧ W.cell? ⟨wr.heap.size, 1, none⟩ = some (.int .i64 KD) ∧ W.cell? ⟨wr.heap.size, 2, none⟩ = some (.int .i64 ((q : Int) + 1)) ∧ W.cell? ⟨wr.heap.size, 3, none⟩ = some (.int .i64 IT)) ∧ W.cell? ⟨bu, ou + q * 7, none⟩ = some (.int .i64 KD) ∧ W.cell? ⟨bu, ou + q * 7 + 1, none⟩ = some (.int .i64 IT)) ∧ AdR w wc #[.slice h.s m.sT.length h.sc, .slice h.f m.fT.length h.fc, .slice h.r m.rT.length h.rc, .slice h.m m.mT.length h.mc, .slice h.l m.lT.length h.lc, .slice h.i m.iT.length h.ic, .int .i64 m.dT, .int .i64 m.oT, .int .i64 m.vT, .int .i64 m.aT, .slice h.u m.uT.length h.uc] wr.heap.size (i : Int) KD ((q : Int) + 1) IT bu (ou + q * 7) be (oe + i * 22) [.int .i64 x.kind, .int .i64 x.mach, .int .i64 j.v2, .int .i64 j.v3, .int .i64 x.group, .int .i64 j.v5, .string j.v6, .int .i64 j.v7, .int .i64 j.v8, .int .i64 j.v9, .bool j.v10, .int .i64 j.v11, .slice j.A x.old.length j.c, .slice j.A13 j.n13 j.c13, .slice j.A14 j.n14 j.c14, .int .i64 x.hitem, .int .i64 j.v16, .int .i64 x.hstate, .int .i64 j.v18, .int .i64 j.v19, .bool x.gone, .int .i64 x.outcome] W)) (by kernel_rfl) (⟨AdR.cells HAU.out HX.out.drew, HX.out.drew⟩) (fun hHeld => ?_)
          refine wpAnyH_take (i := 0) (oi := _) (v := ?_) rfl (by kernel_rfl) (by kernel_rfl) (by kernel_rfl) (fun _ _ _ h => h) (Or.inl ⟨by rfl, ?_⟩) hHeld ?_
          rotate_left
          · intro W hSw; (try dsimp only at hSw); go_simp; try with_reducible rfl
          simp only [Act.put, List.getElem_toArray, List.getElem_cons_zero, List.setIfInBounds_toArray, List.set_cons_zero, List.set_cons_succ]
          refine wpAnyH_take (i := 1) (oi := _) (v := ?_) rfl (by kernel_rfl) (by kernel_rfl) (by kernel_rfl) (fun _ _ _ h => h) (Or.inl ⟨by rfl, ?_⟩) hHeld ?_
          rotate_left
          · intro W hSw; (try dsimp only at hSw); go_simp; try with_reducible rfl
          simp only [Act.put, List.getElem_toArray, List.getElem_cons_succ, List.getElem_cons_zero, List.setIfInBounds_toArray, List.set_cons_zero, List.set_cons_succ]
          refine wpAnyH_take (i := 2) (oi := _) (v := ?_) rfl (by kernel_rfl) (by kernel_rfl) (by kernel_rfl) (fun _ _ _ h => h) (Or.inl ⟨by rfl, ?_⟩) hHeld ?_
          rotate_left
          · intro W hSw; (try dsimp only at hSw); go_simp; try with_reducible rfl
          simp only [Act.put, List.getElem_toArray, List.getElem_cons_succ, List.getElem_cons_zero, List.setIfInBounds_toArray, List.set_cons_zero, List.set_cons_succ]
          refine wpAnyH_take (i := 3) (oi := _) (v := ?_) rfl (by kernel_rfl) (by kernel_rfl) (by kernel_rfl) (fun _ _ _ h => h) (Or.inl ⟨by rfl, ?_⟩) hHeld ?_
          rotate_left
          · intro W hSw; (try dsimp only at hSw); go_simp; try with_reducible rfl
          simp only [Act.put, List.getElem_toArray, List.getElem_cons_succ, List.getElem_cons_zero, List.setIfInBounds_toArray, List.set_cons_zero, List.set_cons_succ]
          refine wpAnyH_take (i := 4) (oi := _) (v := .bool false) rfl (by kernel_rfl) (by kernel_rfl) (by kernel_rfl) (fun _ _ _ h => h) (Or.inl ⟨by rfl, ?_⟩) hHeld ?_
          · intro W hSw; (try dsimp only at hSw); go_simp
          simp only [Act.put, List.getElem_toArray, List.getElem_cons_succ, List.getElem_cons_zero, List.setIfInBounds_toArray, List.set_cons_zero, List.set_cons_succ]
          refine wpAnyH_take (i := 5) (oi := _) (v := .bool false) rfl (by kernel_rfl) (by kernel_rfl) (by kernel_rfl) (fun _ _ _ h => h) (Or.inl ⟨by rfl, ?_⟩) hHeld ?_
          · intro W hSw; (try dsimp only at hSw); go_simp
          simp only [Act.put, List.getElem_toArray, List.getElem_cons_succ, List.getElem_cons_zero, List.setIfInBounds_toArray, List.set_cons_zero, List.set_cons_succ]
          refine wpAnyH_take (i := 6) (oi := _) (v := ?_) rfl (by kernel_rfl) (by kernel_rfl) (by kernel_rfl) (fun _ _ _ h => h) (Or.inl ⟨by rfl, ?_⟩) hHeld ?_
          rotate_left
          · intro W hSw; (try dsimp only at hSw); go_simp; try with_reducible rfl
          simp only [Act.put, List.getElem_toArray, List.getElem_cons_succ, List.getElem_cons_zero, List.setIfInBounds_toArray, List.set_cons_zero, List.set_cons_succ]
          refine wpAnyH_take (i := 7) (oi := _) (v := ?_) rfl (by kernel_rfl) (by kernel_rfl) (by kernel_rfl) (fun _ _ _ h => h) (Or.inl ⟨by rfl, ?_⟩) hHeld ?_
          rotate_left
          · intro W hSw; (try dsimp only at hSw); go_simp; try with_reducible rfl
          simp only [Act.put, List.getElem_toArray, List.getElem_cons_succ, List.getElem_cons_zero, List.setIfInBounds_toArray, List.set_cons_zero, List.set_cons_succ]
          refine wpAnyH_take (i := 8) (oi := _) (v := ?_) rfl (by kernel_rfl) (by kernel_rfl) (by kernel_rfl) (fun _ _ _ h => h) (Or.inl ⟨by rfl, ?_⟩) hHeld ?_
          rotate_left
          · intro W hSw; (try dsimp only at hSw); go_simp; try with_reducible rfl
          simp only [Act.put, List.getElem_toArray, List.getElem_cons_succ, List.getElem_cons_zero, List.setIfInBounds_toArray, List.set_cons_zero, List.set_cons_succ]
          refine wpAnyH_take (i := 9) (oi := _) (v := ?_) rfl (by kernel_rfl) (by kernel_rfl) (by kernel_rfl) (fun _ _ _ h => h) (Or.inl ⟨by rfl, ?_⟩) hHeld ?_
          rotate_left
          · intro W hSw; (try dsimp only at hSw); go_simp; try with_reducible rfl
          simp only [Act.put, List.getElem_toArray, List.getElem_cons_succ, List.getElem_cons_zero, List.setIfInBounds_toArray, List.set_cons_zero, List.set_cons_succ]
          refine wpAnyH_take (i := 10) (oi := _) (v := .bool false) rfl (by kernel_rfl) (by kernel_rfl) (by kernel_rfl) (fun _ _ _ h => h) (Or.inl ⟨by rfl, ?_⟩) hHeld ?_
          · intro W hSw; (try dsimp only at hSw); go_simp
          simp only [Act.put, List.getElem_toArray, List.getElem_cons_succ, List.getElem_cons_zero, List.setIfInBounds_toArray, List.set_cons_zero, List.set_cons_succ]
          refine wpAnyH_take (i := 11) (oi := _) (v := .bool false) rfl (by kernel_rfl) (by kernel_rfl) (by kernel_rfl) (fun _ _ _ h => h) (Or.inl ⟨by rfl, ?_⟩) hHeld ?_
          · intro W hSw; (try dsimp only at hSw); go_simp
          simp only [Act.put, List.getElem_toArray, List.getElem_cons_succ, List.getElem_cons_zero, List.setIfInBounds_toArray, List.set_cons_zero, List.set_cons_succ]
          refine wpAnyH_take (i := 12) (oi := _) (v := .bool false) rfl (by kernel_rfl) (by kernel_rfl) (by kernel_rfl) (fun _ _ _ h => h) (Or.inl ⟨by rfl, ?_⟩) hHeld ?_
          · intro W hSw; (try dsimp only at hSw); go_simp
          simp only [Act.put, List.getElem_toArray, List.getElem_cons_succ, List.getElem_cons_zero, List.setIfInBounds_toArray, List.set_cons_zero, List.set_cons_succ]
          refine wpAnyH_take (i := 13) (oi := _) (v := _) rfl (by kernel_rfl) (by kernel_rfl) (by kernel_rfl) (fun _ _ _ h => h) (yieldsIf_load_mid (by rfl) 29 _ rfl w.heap.size 0 rfl [.slice h.s m.sT.length h.sc, .slice h.f m.fT.length h.fc, .slice h.r m.rT.length h.rc, .slice h.m m.mT.length h.mc, .slice h.l m.lT.length h.lc, .slice h.i m.iT.length h.ic, .int .i64 m.dT, .int .i64 m.oT, .int .i64 m.vT, .int .i64 m.aT, .slice (some ⟨bu, ou, none⟩) m.uT.length h.uc] _ (fun W hW => by have hr := model_range hW.2.s.1.m; rw [HAU.out] at hr; exact hr) Tryz.underlying29 rfl sizeModel) hHeld ?_
          simp only [Act.put, List.getElem_toArray, List.getElem_cons_succ, List.getElem_cons_zero, List.setIfInBounds_toArray, List.set_cons_zero, List.set_cons_succ]
          refine wpAnyH_take (i := 14) (oi := _) (v := ?_) rfl (by kernel_rfl) (by kernel_rfl) (by kernel_rfl) (fun _ _ _ h => h) (Or.inl ⟨by rfl, ?_⟩) hHeld ?_
          rotate_left
          · intro W hSw; (try dsimp only at hSw); go_simp; try with_reducible rfl
          simp only [Act.put, List.getElem_toArray, List.getElem_cons_succ, List.getElem_cons_zero, List.setIfInBounds_toArray, List.set_cons_zero, List.set_cons_succ]
          refine wpAnyH_take (i := 15) (oi := _) (v := ?_) rfl (by kernel_rfl) (by kernel_rfl) (by kernel_rfl) (fun _ _ _ h => h) (Or.inl ⟨by rfl, ?_⟩) hHeld ?_
          rotate_left
          · intro W hSw; (try dsimp only at hSw); go_simp; try with_reducible rfl
          simp only [Act.put, List.getElem_toArray, List.getElem_cons_succ, List.getElem_cons_zero, List.setIfInBounds_toArray, List.set_cons_zero, List.set_cons_succ]
          refine wpAnyH_take (i := 16) (oi := _) (v := ?_) rfl (by kernel_rfl) (by kernel_rfl) (by kernel_rfl) (fun _ _ _ h => h) (Or.inl ⟨by rfl, ?_⟩) hHeld ?_
          rotate_left
          · intro W hSw; (try dsimp only at hSw); go_simp; try with_reducible rfl
          simp only [Act.put, List.getElem_toArray, List.getElem_cons_succ, List.getElem_cons_zero, List.setIfInBounds_toArray, List.set_cons_zero, List.set_cons_succ]
          refine wpAnyH_take (i := 17) (oi := _) (v := ?_) rfl (by kernel_rfl) (by kernel_rfl) (by kernel_rfl) (fun _ _ _ h => h) (Or.inl ⟨by rfl, ?_⟩) hHeld ?_
          rotate_left
          · intro W hSw; (try dsimp only at hSw); go_simp; try with_reducible rfl
          simp only [Act.put, List.getElem_toArray, List.getElem_cons_succ, List.getElem_cons_zero, List.setIfInBounds_toArray, List.set_cons_zero, List.set_cons_succ]
          refine wpAnyH_take (i := 18) (oi := _) (v := _) rfl (by kernel_rfl) (by kernel_rfl) (by kernel_rfl) (fun _ _ _ h => h) (yieldsIf_load_mid (by rfl) 50 _ rfl be (oe + i * 22) rfl [.int .i64 x.kind, .int .i64 x.mach, .int .i64 j.v2, .int .i64 j.v3, .int .i64 x.group, .int .i64 j.v5, .string j.v6, .int .i64 j.v7, .int .i64 j.v8, .int .i64 j.v9, .bool j.v10, .int .i64 j.v11, .slice j.A x.old.length j.c, .slice j.A13 j.n13 j.c13, .slice j.A14 j.n14 j.c14, .int .i64 x.hitem, .int .i64 j.v16, .int .i64 x.hstate, .int .i64 j.v18, .int .i64 j.v19, .bool x.gone, .int .i64 x.outcome] _ (fun W hW => hW.2.e) Tryz.underlying50 rfl sizeEv) hHeld ?_
          simp only [Act.put, List.getElem_toArray, List.getElem_cons_succ, List.getElem_cons_zero, List.setIfInBounds_toArray, List.set_cons_zero, List.set_cons_succ]
          refine wpAnyH_ready (rs := [19]) (by kernel_rfl) (by simp) ?_
          refine AllReadyH.cons rfl (fun K hK => ?_) AllReadyH.nil
          go_simp
          go_at_call 11
          have hbw := HX.out.drew.s.1.b
          (with_reducible refine (HCW.out _ hbw).mono ?_)
          rintro e w14 ⟨rfl, hb14⟩
          have HX2 := hide (HX.out.drew.grow hb14)
          clear hb14 hbw
          dsimp only
          refine hK.out _ _ (⟨AdR.cells HAU.out HX2.out, HX2.out⟩) (fun hHeld => ?_)
          clear hK K
          refine wpAnyH_take (i := 20) (oi := _) (v := .bool false) rfl (by kernel_rfl) (by kernel_rfl) (by kernel_rfl) (fun _ _ _ h => h) (Or.inl ⟨by rfl, ?_⟩) hHeld ?_
          · intro W hSw; (try dsimp only at hSw); go_simp
          simp only [Act.put, List.getElem_toArray, List.getElem_cons_succ, List.getElem_cons_zero, List.setIfInBounds_toArray, List.set_cons_zero, List.set_cons_succ]
          refine wpAnyH_take (i := 21) (oi := _) (v := .bool false) rfl (by kernel_rfl) (by kernel_rfl) (by kernel_rfl) (fun _ _ _ h => h) (Or.inl ⟨by rfl, ?_⟩) hHeld ?_
          · intro W hSw; (try dsimp only at hSw); go_simp
          simp only [Act.put, List.getElem_toArray, List.getElem_cons_succ, List.getElem_cons_zero, List.setIfInBounds_toArray, List.set_cons_zero, List.set_cons_succ]
          refine wpAnyH_take (i := 22) (oi := _) (v := .bool false) rfl (by kernel_rfl) (by kernel_rfl) (by kernel_rfl) (fun _ _ _ h => h) (Or.inl ⟨by rfl, ?_⟩) hHeld ?_
          · intro W hSw; (try dsimp only at hSw); go_simp
          simp only [Act.put, List.getElem_toArray, List.getElem_cons_succ, List.getElem_cons_zero, List.setIfInBounds_toArray, List.set_cons_zero, List.set_cons_succ]
          refine wpAnyH_take (i := 23) (oi := _) (v := ?_) rfl (by kernel_rfl) (by kernel_rfl) (by kernel_rfl) (fun _ _ _ h => h) (Or.inl ⟨by rfl, ?_⟩) hHeld ?_
          rotate_left
          · intro W hSw; (try dsimp only at hSw); go_simp; try with_reducible rfl
          simp only [Act.put, List.getElem_toArray, List.getElem_cons_succ, List.getElem_cons_zero, List.setIfInBounds_toArray, List.set_cons_zero, List.set_cons_succ]
          refine wpAnyH_take (i := 24) (oi := _) (v := ?_) rfl (by kernel_rfl) (by kernel_rfl) (by kernel_rfl) (fun _ _ _ h => h) (Or.inl ⟨by rfl, ?_⟩) hHeld ?_
          rotate_left
          · intro W hSw; (try dsimp only at hSw); go_simp; try with_reducible rfl
          simp only [Act.put, List.getElem_toArray, List.getElem_cons_succ, List.getElem_cons_zero, List.setIfInBounds_toArray, List.set_cons_zero, List.set_cons_succ]
          refine wpAnyH_take (i := 25) (oi := _) (v := .bool false) rfl (by kernel_rfl) (by kernel_rfl) (by kernel_rfl) (fun _ _ _ h => h) (Or.inl ⟨by rfl, ?_⟩) hHeld ?_
          · intro W hSw; (try dsimp only at hSw); go_simp
          simp only [Act.put, List.getElem_toArray, List.getElem_cons_succ, List.getElem_cons_zero, List.setIfInBounds_toArray, List.set_cons_zero, List.set_cons_succ]
          refine wpAnyH_take (i := 26) (oi := _) (v := .bool false) rfl (by kernel_rfl) (by kernel_rfl) (by kernel_rfl) (fun _ _ _ h => h) (Or.inl ⟨by rfl, ?_⟩) hHeld ?_
          · intro W hSw; (try dsimp only at hSw); go_simp
          simp only [Act.put, List.getElem_toArray, List.getElem_cons_succ, List.getElem_cons_zero, List.setIfInBounds_toArray, List.set_cons_zero, List.set_cons_succ]
          refine wpAnyH_take (i := 27) (oi := _) (v := .bool false) rfl (by kernel_rfl) (by kernel_rfl) (by kernel_rfl) (fun _ _ _ h => h) (Or.inl ⟨by rfl, ?_⟩) hHeld ?_
          · intro W hSw; (try dsimp only at hSw); go_simp
          simp only [Act.put, List.getElem_toArray, List.getElem_cons_succ, List.getElem_cons_zero, List.setIfInBounds_toArray, List.set_cons_zero, List.set_cons_succ]
          refine wpAnyH_take (i := 28) (oi := _) (v := ?_) rfl (by kernel_rfl) (by kernel_rfl) (by kernel_rfl) (fun _ _ _ h => h) (Or.inl ⟨by rfl, ?_⟩) hHeld ?_
          rotate_left
          · intro W hSw; (try dsimp only at hSw); go_simp; try with_reducible rfl
          simp only [Act.put, List.getElem_toArray, List.getElem_cons_succ, List.getElem_cons_zero, List.setIfInBounds_toArray, List.set_cons_zero, List.set_cons_succ]
          refine wpAnyH_take (i := 29) (oi := _) (v := ?_) rfl (by kernel_rfl) (by kernel_rfl) (by kernel_rfl) (fun _ _ _ h => h) (Or.inl ⟨by rfl, ?_⟩) hHeld ?_
          rotate_left
          · intro W hSw; (try dsimp only at hSw); go_simp; try with_reducible rfl
          simp only [Act.put, List.getElem_toArray, List.getElem_cons_succ, List.getElem_cons_zero, List.setIfInBounds_toArray, List.set_cons_zero, List.set_cons_succ]
          refine wpAnyH_take (i := 30) (oi := _) (v := ?_) rfl (by kernel_rfl) (by kernel_rfl) (by kernel_rfl) (fun _ _ _ h => h) (Or.inl ⟨by rfl, ?_⟩) hHeld ?_
          rotate_left
          · intro W hSw; (try dsimp only at hSw); go_simp; try with_reducible rfl
          simp only [Act.put, List.getElem_toArray, List.getElem_cons_succ, List.getElem_cons_zero, List.setIfInBounds_toArray, List.set_cons_zero, List.set_cons_succ]
          refine wpAnyH_take (i := 31) (oi := _) (v := ?_) rfl (by kernel_rfl) (by kernel_rfl) (by kernel_rfl) (fun _ _ _ h => h) (Or.inl ⟨by rfl, ?_⟩) hHeld ?_
          rotate_left
          · intro W hSw; (try dsimp only at hSw); go_simp; try with_reducible rfl
          simp only [Act.put, List.getElem_toArray, List.getElem_cons_succ, List.getElem_cons_zero, List.setIfInBounds_toArray, List.set_cons_zero, List.set_cons_succ]
          refine wpAnyH_take (i := 32) (oi := _) (v := ?_) rfl (by kernel_rfl) (by kernel_rfl) (by kernel_rfl) (fun _ _ _ h => h) (Or.inl ⟨by rfl, ?_⟩) hHeld ?_
          rotate_left
          · intro W hSw; (try dsimp only at hSw); go_simp; try with_reducible rfl
          simp only [Act.put, List.getElem_toArray, List.getElem_cons_succ, List.getElem_cons_zero, List.setIfInBounds_toArray, List.set_cons_zero, List.set_cons_succ]
          refine wpAnyH_take (i := 33) (oi := _) (v := .bool false) rfl (by kernel_rfl) (by kernel_rfl) (by kernel_rfl) (fun _ _ _ h => h) (Or.inl ⟨by rfl, ?_⟩) hHeld ?_
          · intro W hSw; (try dsimp only at hSw); go_simp
          simp only [Act.put, List.getElem_toArray, List.getElem_cons_succ, List.getElem_cons_zero, List.setIfInBounds_toArray, List.set_cons_zero, List.set_cons_succ]
          refine wpAnyH_take (i := 34) (oi := _) (v := .bool false) rfl (by kernel_rfl) (by kernel_rfl) (by kernel_rfl) (fun _ _ _ h => h) (Or.inl ⟨by rfl, ?_⟩) hHeld ?_
          · intro W hSw; (try dsimp only at hSw); go_simp
          simp only [Act.put, List.getElem_toArray, List.getElem_cons_succ, List.getElem_cons_zero, List.setIfInBounds_toArray, List.set_cons_zero, List.set_cons_succ]
          refine wpAnyH_take (i := 35) (oi := _) (v := .bool false) rfl (by kernel_rfl) (by kernel_rfl) (by kernel_rfl) (fun _ _ _ h => h) (Or.inl ⟨by rfl, ?_⟩) hHeld ?_
          · intro W hSw; (try dsimp only at hSw); go_simp
          simp only [Act.put, List.getElem_toArray, List.getElem_cons_succ, List.getElem_cons_zero, List.setIfInBounds_toArray, List.set_cons_zero, List.set_cons_succ]
          refine wpAnyH_take (i := 36) (oi := _) (v := ?_) rfl (by kernel_rfl) (by kernel_rfl) (by kernel_rfl) (fun _ _ _ h => h) (Or.inl ⟨by rfl, ?_⟩) hHeld ?_
          rotate_left
          · intro W hSw; (try dsimp only at hSw); go_simp; try with_reducible rfl
          simp only [Act.put, List.getElem_toArray, List.getElem_cons_succ, List.getElem_cons_zero, List.setIfInBounds_toArray, List.set_cons_zero, List.set_cons_succ]
          refine wpAnyH_take (i := 37) (oi := _) (v := ?_) rfl (by kernel_rfl) (by kernel_rfl) (by kernel_rfl) (fun _ _ _ h => h) (Or.inl ⟨by rfl, ?_⟩) hHeld ?_
          rotate_left
          · intro W hSw; (try dsimp only at hSw); go_simp; try with_reducible rfl
          simp only [Act.put, List.getElem_toArray, List.getElem_cons_succ, List.getElem_cons_zero, List.setIfInBounds_toArray, List.set_cons_zero, List.set_cons_succ]
          refine wpAnyH_take (i := 38) (oi := _) (v := ?_) rfl (by kernel_rfl) (by kernel_rfl) (by kernel_rfl) (fun _ _ _ h => h) (Or.inl ⟨by rfl, ?_⟩) hHeld ?_
          rotate_left
          · intro W hSw; (try dsimp only at hSw); go_simp; try with_reducible rfl
          simp only [Act.put, List.getElem_toArray, List.getElem_cons_succ, List.getElem_cons_zero, List.setIfInBounds_toArray, List.set_cons_zero, List.set_cons_succ]
          refine wpAnyH_take (i := 39) (oi := _) (v := ?_) rfl (by kernel_rfl) (by kernel_rfl) (by kernel_rfl) (fun _ _ _ h => h) (Or.inl ⟨by rfl, ?_⟩) hHeld ?_
          rotate_left
          · intro W hSw; (try dsimp only at hSw); go_simp; try with_reducible rfl
          simp only [Act.put, List.getElem_toArray, List.getElem_cons_succ, List.getElem_cons_zero, List.setIfInBounds_toArray, List.set_cons_zero, List.set_cons_succ]
          refine wpAnyH_take (i := 40) (oi := _) (v := ?_) rfl (by kernel_rfl) (by kernel_rfl) (by kernel_rfl) (fun _ _ _ h => h) (Or.inl ⟨by rfl, ?_⟩) hHeld ?_
          rotate_left
          · intro W hSw; (try dsimp only at hSw); go_simp; try with_reducible rfl
          simp only [Act.put, List.getElem_toArray, List.getElem_cons_succ, List.getElem_cons_zero, List.setIfInBounds_toArray, List.set_cons_zero, List.set_cons_succ]
          refine wpAnyH_take (i := 41) (oi := _) (v := ?_) rfl (by kernel_rfl) (by kernel_rfl) (by kernel_rfl) (fun _ _ _ h => h) (Or.inl ⟨by rfl, ?_⟩) hHeld ?_
          rotate_left
          · intro W hSw; (try dsimp only at hSw); go_simp; try with_reducible rfl
          simp only [Act.put, List.getElem_toArray, List.getElem_cons_succ, List.getElem_cons_zero, List.setIfInBounds_toArray, List.set_cons_zero, List.set_cons_succ]
          refine wpAnyH_take (i := 42) (oi := _) (v := ?_) rfl (by kernel_rfl) (by kernel_rfl) (by kernel_rfl) (fun _ _ _ h => h) (Or.inl ⟨by rfl, ?_⟩) hHeld ?_
          rotate_left
          · intro W hSw; (try dsimp only at hSw); go_simp; try with_reducible rfl
          simp only [Act.put, List.getElem_toArray, List.getElem_cons_succ, List.getElem_cons_zero, List.setIfInBounds_toArray, List.set_cons_zero, List.set_cons_succ]
          refine wpAnyH_take (i := 43) (oi := _) (v := ?_) rfl (by kernel_rfl) (by kernel_rfl) (by kernel_rfl) (fun _ _ _ h => h) (Or.inl ⟨by rfl, ?_⟩) hHeld ?_
          rotate_left
          · intro W hSw; (try dsimp only at hSw); go_simp; try with_reducible rfl
          simp only [Act.put, List.getElem_toArray, List.getElem_cons_succ, List.getElem_cons_zero, List.setIfInBounds_toArray, List.set_cons_zero, List.set_cons_succ]
          refine wpAnyH_take (i := 44) (oi := _) (v := ?_) rfl (by kernel_rfl) (by kernel_rfl) (by kernel_rfl) (fun _ _ _ h => h) (Or.inl ⟨by rfl, ?_⟩) hHeld ?_
          rotate_left
          · intro W hSw; (try dsimp only at hSw); go_simp; try with_reducible rfl
          simp only [Act.put, List.getElem_toArray, List.getElem_cons_succ, List.getElem_cons_zero, List.setIfInBounds_toArray, List.set_cons_zero, List.set_cons_succ]
          refine wpAnyH_take (i := 45) (oi := _) (v := ?_) rfl (by kernel_rfl) (by kernel_rfl) (by kernel_rfl) (fun _ _ _ h => h) (Or.inl ⟨by rfl, ?_⟩) hHeld ?_
          rotate_left
          · intro W hSw; (try dsimp only at hSw); go_simp; try with_reducible rfl
          simp only [Act.put, List.getElem_toArray, List.getElem_cons_succ, List.getElem_cons_zero, List.setIfInBounds_toArray, List.set_cons_zero, List.set_cons_succ]
          refine wpAnyH_take (i := 46) (oi := _) (v := .bool false) rfl (by kernel_rfl) (by kernel_rfl) (by kernel_rfl) (fun _ _ _ h => h) (Or.inl ⟨by rfl, ?_⟩) hHeld ?_
          · intro W hSw; (try dsimp only at hSw); go_simp
          simp only [Act.put, List.getElem_toArray, List.getElem_cons_succ, List.getElem_cons_zero, List.setIfInBounds_toArray, List.set_cons_zero, List.set_cons_succ]
          refine wpAnyH_take (i := 47) (oi := _) (v := .bool false) rfl (by kernel_rfl) (by kernel_rfl) (by kernel_rfl) (fun _ _ _ h => h) (Or.inl ⟨by rfl, ?_⟩) hHeld ?_
          · intro W hSw; (try dsimp only at hSw); go_simp
          simp only [Act.put, List.getElem_toArray, List.getElem_cons_succ, List.getElem_cons_zero, List.setIfInBounds_toArray, List.set_cons_zero, List.set_cons_succ]
          refine wpAnyH_take (i := 48) (oi := _) (v := .bool false) rfl (by kernel_rfl) (by kernel_rfl) (by kernel_rfl) (fun _ _ _ h => h) (Or.inl ⟨by rfl, ?_⟩) hHeld ?_
          · intro W hSw; (try dsimp only at hSw); go_simp
          simp only [Act.put, List.getElem_toArray, List.getElem_cons_succ, List.getElem_cons_zero, List.setIfInBounds_toArray, List.set_cons_zero, List.set_cons_succ]
          refine wpAnyH_take (i := 49) (oi := _) (v := ?_) rfl (by kernel_rfl) (by kernel_rfl) (by kernel_rfl) (fun _ _ _ h => h) (Or.inl ⟨by rfl, ?_⟩) hHeld ?_
          rotate_left
          · intro W hSw; (try dsimp only at hSw); go_simp; try with_reducible rfl
          simp only [Act.put, List.getElem_toArray, List.getElem_cons_succ, List.getElem_cons_zero, List.setIfInBounds_toArray, List.set_cons_zero, List.set_cons_succ]
          refine wpAnyH_take (i := 50) (oi := _) (v := ?_) rfl (by kernel_rfl) (by kernel_rfl) (by kernel_rfl) (fun _ _ _ h => h) (Or.inl ⟨by rfl, ?_⟩) hHeld ?_
          rotate_left
          · intro W hSw; (try dsimp only at hSw); go_simp; try with_reducible rfl
          simp only [Act.put, List.getElem_toArray, List.getElem_cons_succ, List.getElem_cons_zero, List.setIfInBounds_toArray, List.set_cons_zero, List.set_cons_succ]
          refine wpAnyH_take (i := 51) (oi := _) (v := ?_) rfl (by kernel_rfl) (by kernel_rfl) (by kernel_rfl) (fun _ _ _ h => h) (Or.inl ⟨by rfl, ?_⟩) hHeld ?_
          rotate_left
          · intro W hSw; (try dsimp only at hSw); go_simp; try with_reducible rfl
          simp only [Act.put, List.getElem_toArray, List.getElem_cons_succ, List.getElem_cons_zero, List.setIfInBounds_toArray, List.set_cons_zero, List.set_cons_succ]
          refine wpAnyH_take (i := 52) (oi := _) (v := ?_) rfl (by kernel_rfl) (by kernel_rfl) (by kernel_rfl) (fun _ _ _ h => h) (Or.inl ⟨by rfl, ?_⟩) hHeld ?_
          rotate_left
          · intro W hSw; (try dsimp only at hSw); go_simp; try with_reducible rfl
          simp only [Act.put, List.getElem_toArray, List.getElem_cons_succ, List.getElem_cons_zero, List.setIfInBounds_toArray, List.set_cons_zero, List.set_cons_succ]
          refine wpAnyH_take (i := 53) (oi := _) (v := ?_) rfl (by kernel_rfl) (by kernel_rfl) (by kernel_rfl) (fun _ _ _ h => h) (Or.inl ⟨by rfl, ?_⟩) hHeld ?_
          rotate_left
          · intro W hSw; (try dsimp only at hSw); go_simp; try with_reducible rfl
          simp only [Act.put, List.getElem_toArray, List.getElem_cons_succ, List.getElem_cons_zero, List.setIfInBounds_toArray, List.set_cons_zero, List.set_cons_succ]
          refine wpAnyH_take (i := 54) (oi := _) (v := ?_) rfl (by kernel_rfl) (by kernel_rfl) (by kernel_rfl) (fun _ _ _ h => h) (Or.inl ⟨by rfl, ?_⟩) hHeld ?_
          rotate_left
          · intro W hSw; (try dsimp only at hSw); go_simp; try with_reducible rfl
          simp only [Act.put, List.getElem_toArray, List.getElem_cons_succ, List.getElem_cons_zero, List.setIfInBounds_toArray, List.set_cons_zero, List.set_cons_succ]
          refine wpAnyH_take (i := 55) (oi := _) (v := ?_) rfl (by kernel_rfl) (by kernel_rfl) (by kernel_rfl) (fun _ _ _ h => h) (Or.inl ⟨by rfl, ?_⟩) hHeld ?_
          rotate_left
          · intro W hSw; (try dsimp only at hSw); go_simp; try with_reducible rfl
          simp only [Act.put, List.getElem_toArray, List.getElem_cons_succ, List.getElem_cons_zero, List.setIfInBounds_toArray, List.set_cons_zero, List.set_cons_succ]
          refine wpAnyH_take (i := 56) (oi := _) (v := ?_) rfl (by kernel_rfl) (by kernel_rfl) (by kernel_rfl) (fun _ _ _ h => h) (Or.inl ⟨by rfl, ?_⟩) hHeld ?_
          rotate_left
          · intro W hSw; (try dsimp only at hSw); go_simp; try with_reducible rfl
          simp only [Act.put, List.getElem_toArray, List.getElem_cons_succ, List.getElem_cons_zero, List.setIfInBounds_toArray, List.set_cons_zero, List.set_cons_succ]
          refine wpAnyH_take (i := 57) (oi := _) (v := ?_) rfl (by kernel_rfl) (by kernel_rfl) (by kernel_rfl) (fun _ _ _ h => h) (Or.inl ⟨by rfl, ?_⟩) hHeld ?_
          rotate_left
          · intro W hSw; (try dsimp only at hSw); go_simp; try with_reducible rfl
          simp only [Act.put, List.getElem_toArray, List.getElem_cons_succ, List.getElem_cons_zero, List.setIfInBounds_toArray, List.set_cons_zero, List.set_cons_succ]
          refine wpAnyH_take (i := 58) (oi := _) (v := ?_) rfl (by kernel_rfl) (by kernel_rfl) (by kernel_rfl) (fun _ _ _ h => h) (Or.inl ⟨by rfl, ?_⟩) hHeld ?_
          rotate_left
          · intro W hSw; (try dsimp only at hSw); go_simp; try with_reducible rfl
          simp only [Act.put, List.getElem_toArray, List.getElem_cons_succ, List.getElem_cons_zero, List.setIfInBounds_toArray, List.set_cons_zero, List.set_cons_succ]
          refine wpAnyH_take (i := 59) (oi := _) (v := .bool false) rfl (by kernel_rfl) (by kernel_rfl) (by kernel_rfl) (fun _ _ _ h => h) (Or.inl ⟨by rfl, ?_⟩) hHeld ?_
          · intro W hSw; (try dsimp only at hSw); go_simp
          simp only [Act.put, List.getElem_toArray, List.getElem_cons_succ, List.getElem_cons_zero, List.setIfInBounds_toArray, List.set_cons_zero, List.set_cons_succ]
          refine wpAnyH_take (i := 60) (oi := _) (v := .bool false) rfl (by kernel_rfl) (by kernel_rfl) (by kernel_rfl) (fun _ _ _ h => h) (Or.inl ⟨by rfl, ?_⟩) hHeld ?_
          · intro W hSw; (try dsimp only at hSw); go_simp
          simp only [Act.put, List.getElem_toArray, List.getElem_cons_succ, List.getElem_cons_zero, List.setIfInBounds_toArray, List.set_cons_zero, List.set_cons_succ]
          refine wpAnyH_done (by kernel_rfl) ?_ _
          go_wp2_with fail
          go_roundw
          case rel => exact ⟨k + 1, by have := HLT.out; omega, by go_num, by have h7 := HX2.out.s; rw [HAU.out] at h7; exact hide h7⟩
          case measure => have := HLT.out; simp [intOf]; omega
        · obtain rfl : k = B2.length := by omega
          have HBW := hide hS.out.1.b
          clear hS
          go_wp2_with ((with_reducible refine (HAW.out _ HBW.out).mono ?_); rintro e15 w15 ⟨rfl, hb15⟩
                       have HB15 := hide (HBW.out.trans (hb15.mono HBW.out.size))
                       clear hb15)
          go_ret
          exact ⟨rfl, HB15.out⟩
end Go.Proofs.YtmjcgcnpeoemdaaGreatDoor
