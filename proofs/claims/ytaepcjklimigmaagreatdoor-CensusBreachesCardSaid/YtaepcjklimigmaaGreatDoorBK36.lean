/- A part of the claim: see its last text. -/
import Derived.Test.YtaepcjklimigmaaGreatDoorBK02
import Derived.Test.YtaepcjklimigmaaGreatDoorBK03
import Derived.Test.YtaepcjklimigmaaGreatDoorBK15
import Derived.Test.YtaepcjklimigmaaGreatDoorBK20
import Derived.Test.YtaepcjklimigmaaGreatDoorBK35
import Derived.Test.YtaepcjklimigmaaGreatDoorBK08

set_option maxRecDepth 100000
set_option maxHeartbeats 16000000
namespace Go.Proofs.YtaepcjklimigmaaGreatDoor
open Go Go.RowKit Go.Proofs
def AnsB (w : World) (v : Value) (e : Ending) (w' : World) : Prop := e = .returned v ∧ Below w.heap.size w w'
theorem domains_ref (h : MH) (m : Mod) (by_ : Int) (w : World) : Calls Tryz.prog 52 #[.agg #[.slice h.s m.sT.length h.sc, .slice h.f m.fT.length h.fc, .slice h.r m.rT.length h.rc, .slice h.m m.mT.length h.mc, .slice h.l m.lT.length h.lc, .slice h.i m.iT.length h.ic, .int .i64 m.dT, .int .i64 m.oT, .int .i64 m.vT, .int .i64 m.aT, .slice h.u m.uT.length h.uc], .int .i64 by_] w (AnsB w (.int .i64 (domsI m by_))) := by
 have HB := hide ((Below.refl w.heap.size w).alloc (Nat.le_refl _) (.cells #[.slice h.s m.sT.length h.sc, .slice h.f m.fT.length h.fc, .slice h.r m.rT.length h.rc, .slice h.m m.mT.length h.mc, .slice h.l m.lT.length h.lc, .slice h.i m.iT.length h.ic, .int .i64 m.dT, .int .i64 m.oT, .int .i64 m.vT, .int .i64 m.aT, .slice h.u m.uT.length h.uc] 29))
 have hB : ∀ b : Bool, b = false ∨ b = true := fun b => by cases b <;> simp
 rcases hB (by_ == 1) with e1 | e1
 · rcases hB (by_ == 2) with e2 | e2
   · rcases hB (by_ == 3) with e3 | e3
     · rcases hB (by_ == 4) with e4 | e4
       · have HV := hide (show domsI m by_ = 0 by simp at e1 e2 e3 e4; simp [domsI, e1, e2, e3, e4])
         go_enter Tryz.func52, Tryz.ntmps52
         go_wp2_with fail
         go_ret
         exact ⟨ret_congr (by rw [HV.out]; rfl), HB.out⟩
       · have HV := hide (show domsI m by_ = m.sT.length by simp at e4; subst e4; simp [domsI])
         go_enter Tryz.func52, Tryz.ntmps52
         go_wp2_with fail
         go_ret
         exact ⟨ret_congr (by rw [HV.out]; rfl), HB.out⟩
     · have HV := hide (show domsI m by_ = m.fT.length by simp at e3; subst e3; simp [domsI])
       go_enter Tryz.func52, Tryz.ntmps52
       go_wp2_with fail
       go_ret
       exact ⟨ret_congr (by rw [HV.out]; rfl), HB.out⟩
   · have HV := hide (show domsI m by_ = m.rT.length by simp at e2; subst e2; simp [domsI])
     go_enter Tryz.func52, Tryz.ntmps52
     go_wp2_with fail
     go_ret
     exact ⟨ret_congr (by rw [HV.out]; rfl), HB.out⟩
 · have HV := hide (show domsI m by_ = m.mT.length by simp at e1; subst e1; simp [domsI])
   go_enter Tryz.func52, Tryz.ntmps52
   go_wp2_with fail
   go_ret
   exact ⟨ret_congr (by rw [HV.out]; rfl), HB.out⟩
theorem domR_nomach (h : MH) (m : Mod) (by_ mc : Int) (w : World) (_hl : m.mT.length ≤ 9223372036854775807) (hx : exI mc m.mT.length = false) :
    Calls Tryz.prog 23 #[.agg #[.slice h.s m.sT.length h.sc, .slice h.f m.fT.length h.fc, .slice h.r m.rT.length h.rc, .slice h.m m.mT.length h.mc, .slice h.l m.lT.length h.lc, .slice h.i m.iT.length h.ic, .int .i64 m.dT, .int .i64 m.oT, .int .i64 m.vT, .int .i64 m.aT, .slice h.u m.uT.length h.uc], .int .i64 by_, .int .i64 mc] w (AnsB w (.int .i64 0)) := by
 have HB := hide ((Below.refl w.heap.size w).alloc (Nat.le_refl _) (.cells #[.slice h.s m.sT.length h.sc, .slice h.f m.fT.length h.fc, .slice h.r m.rT.length h.rc, .slice h.m m.mT.length h.mc, .slice h.l m.lT.length h.lc, .slice h.i m.iT.length h.ic, .int .i64 m.dT, .int .i64 m.oT, .int .i64 m.vT, .int .i64 m.aT, .slice h.u m.uT.length h.uc] 29))
 have HX := hide hx
 clear hx
 go_enter Tryz.func23, Tryz.ntmps23
 go_wp2_with (go_at_call 51; refine (exists_ref _ _ _).mono ?_; rintro e w2 ⟨rfl, rfl⟩; rw [HX.out])
 go_ret
 exact ⟨rfl, HB.out⟩
theorem domR_1f (h : MH) (m : Mod) (mc : Int) (w : World) (_hl : m.mT.length ≤ 9223372036854775807) (hx : exI mc m.mT.length = true) (hq : exI mc (domsI m 1) = false) :
    Calls Tryz.prog 23 #[.agg #[.slice h.s m.sT.length h.sc, .slice h.f m.fT.length h.fc, .slice h.r m.rT.length h.rc, .slice h.m m.mT.length h.mc, .slice h.l m.lT.length h.lc, .slice h.i m.iT.length h.ic, .int .i64 m.dT, .int .i64 m.oT, .int .i64 m.vT, .int .i64 m.aT, .slice h.u m.uT.length h.uc], .int .i64 1, .int .i64 mc] w (AnsB w (.int .i64 0)) := by
 have HB := hide ((Below.refl w.heap.size w).alloc (Nat.le_refl _) (.cells #[.slice h.s m.sT.length h.sc, .slice h.f m.fT.length h.fc, .slice h.r m.rT.length h.rc, .slice h.m m.mT.length h.mc, .slice h.l m.lT.length h.lc, .slice h.i m.iT.length h.ic, .int .i64 m.dT, .int .i64 m.oT, .int .i64 m.vT, .int .i64 m.aT, .slice h.u m.uT.length h.uc] 29))
 have HDS := hide (domains_ref h m 1 (w.alloc (.cells #[.slice h.s m.sT.length h.sc, .slice h.f m.fT.length h.fc, .slice h.r m.rT.length h.rc, .slice h.m m.mT.length h.mc, .slice h.l m.lT.length h.lc, .slice h.i m.iT.length h.ic, .int .i64 m.dT, .int .i64 m.oT, .int .i64 m.vT, .int .i64 m.aT, .slice h.u m.uT.length h.uc] 29)))
 have HX := hide hx
 have HE := hide hq
 have HR := hide True.intro
 clear hx hq
 go_enter Tryz.func23, Tryz.ntmps23
 go_wp2_with (first
  | (go_at_call 51; refine (exists_ref _ _ _).mono ?_; rintro e w2 ⟨rfl, rfl⟩; first | rw [HX.out] | rw [HE.out])
  | (go_at_call 52; refine HDS.out.mono ?_; rintro e w3 ⟨rfl, hb3⟩))
 go_ret
 exact ⟨rfl, HB.out.trans (hb3.mono HB.out.size)⟩
theorem domR_1t (h : MH) (m : Mod) (mc : Int) (w : World) (_hl : m.mT.length ≤ 9223372036854775807) (hx : exI mc m.mT.length = true) (hq : exI mc (domsI m 1) = true) :
    Calls Tryz.prog 23 #[.agg #[.slice h.s m.sT.length h.sc, .slice h.f m.fT.length h.fc, .slice h.r m.rT.length h.rc, .slice h.m m.mT.length h.mc, .slice h.l m.lT.length h.lc, .slice h.i m.iT.length h.ic, .int .i64 m.dT, .int .i64 m.oT, .int .i64 m.vT, .int .i64 m.aT, .slice h.u m.uT.length h.uc], .int .i64 1, .int .i64 mc] w (AnsB w (.int .i64 mc)) := by
 have HB := hide ((Below.refl w.heap.size w).alloc (Nat.le_refl _) (.cells #[.slice h.s m.sT.length h.sc, .slice h.f m.fT.length h.fc, .slice h.r m.rT.length h.rc, .slice h.m m.mT.length h.mc, .slice h.l m.lT.length h.lc, .slice h.i m.iT.length h.ic, .int .i64 m.dT, .int .i64 m.oT, .int .i64 m.vT, .int .i64 m.aT, .slice h.u m.uT.length h.uc] 29))
 have HDS := hide (domains_ref h m 1 (w.alloc (.cells #[.slice h.s m.sT.length h.sc, .slice h.f m.fT.length h.fc, .slice h.r m.rT.length h.rc, .slice h.m m.mT.length h.mc, .slice h.l m.lT.length h.lc, .slice h.i m.iT.length h.ic, .int .i64 m.dT, .int .i64 m.oT, .int .i64 m.vT, .int .i64 m.aT, .slice h.u m.uT.length h.uc] 29)))
 have HX := hide hx
 have HE := hide hq
 have HR := hide True.intro
 clear hx hq
 go_enter Tryz.func23, Tryz.ntmps23
 go_wp2_with (first
  | (go_at_call 51; refine (exists_ref _ _ _).mono ?_; rintro e w2 ⟨rfl, rfl⟩; first | rw [HX.out] | rw [HE.out])
  | (go_at_call 52; refine HDS.out.mono ?_; rintro e w3 ⟨rfl, hb3⟩))
 go_ret
 exact ⟨rfl, HB.out.trans (hb3.mono HB.out.size)⟩
theorem domR_norack (h : MH) (m : Mod) (by_ : Int) (a : Nat) (rk : Int) (b off : Nat) (w : World) (hA : h.m = some ⟨b, off, none⟩) (hb : b < w.heap.size) (x1 : w.cell? ⟨b, off + a * 3 + 1, none⟩ = some (.int .i64 rk)) (haI : (a : Int) < (m.mT.length : Int)) (hl : m.mT.length ≤ 9223372036854775807) (_hl2 : m.rT.length ≤ 9223372036854775807) (g1 : (by_ == 1) = false) (hx : exI ((a : Int) + 1) m.mT.length = true) (hr : exI rk m.rT.length = false) :
    Calls Tryz.prog 23 #[.agg #[.slice h.s m.sT.length h.sc, .slice h.f m.fT.length h.fc, .slice h.r m.rT.length h.rc, .slice h.m m.mT.length h.mc, .slice h.l m.lT.length h.lc, .slice h.i m.iT.length h.ic, .int .i64 m.dT, .int .i64 m.oT, .int .i64 m.vT, .int .i64 m.aT, .slice h.u m.uT.length h.uc], .int .i64 by_, .int .i64 ((a : Int) + 1)] w (AnsB w (.int .i64 0)) := by
 have hb0 := (Below.refl w.heap.size w).alloc (Nat.le_refl _) (.cells #[.slice h.s m.sT.length h.sc, .slice h.f m.fT.length h.fc, .slice h.r m.rT.length h.rc, .slice h.m m.mT.length h.mc, .slice h.l m.lT.length h.lc, .slice h.i m.iT.length h.ic, .int .i64 m.dT, .int .i64 m.oT, .int .i64 m.vT, .int .i64 m.aT, .slice h.u m.uT.length h.uc] 29)
 have y1 := (hb0.cell (p := ⟨b, off + a * 3 + 1, none⟩) hb).trans x1
 have bl := Nat.lt_of_lt_of_le hb hb0.size
 have HB := hide hb0
 have HX := hide hx
 have HR := hide hr
 have ha0 : (0 : Int) ≤ (a : Int) := by omega
 rw [hA] at HB y1 bl ⊢
 clear hb0 hx hr x1 hb hA
 go_enter Tryz.func23, Tryz.ntmps23
 go_wp2_with (go_at_call 51; refine (exists_ref _ _ _).mono ?_; rintro e w2 ⟨rfl, rfl⟩; first | rw [HX.out] | rw [HR.out])
 go_ret
 exact ⟨rfl, HB.out⟩
theorem domR_3f (h : MH) (m : Mod) (a q : Nat) (b off b2 off2 : Nat) (r1 r2 : Int) (w : World) (hA : h.m = some ⟨b, off, none⟩) (hb : b < w.heap.size) (x1 : w.cell? ⟨b, off + a * 3 + 1, none⟩ = some (.int .i64 ((q : Int) + 1))) (hA2 : h.r = some ⟨b2, off2, none⟩) (hb2 : b2 < w.heap.size) (x2 : w.cell? ⟨b2, off2 + q * 3 + 1, none⟩ = some (.int .i64 r1)) (x3 : w.cell? ⟨b2, off2 + q * 3 + 2, none⟩ = some (.int .i64 r2)) (haI : (a : Int) < (m.mT.length : Int)) (hqI : (q : Int) < (m.rT.length : Int)) (hl : m.mT.length ≤ 9223372036854775807) (hl2 : m.rT.length ≤ 9223372036854775807) (hx : exI ((a : Int) + 1) m.mT.length = true) (hr : exI ((q : Int) + 1) m.rT.length = true) (hq : exI r2 (domsI m 3) = false) :
    Calls Tryz.prog 23 #[.agg #[.slice h.s m.sT.length h.sc, .slice h.f m.fT.length h.fc, .slice h.r m.rT.length h.rc, .slice h.m m.mT.length h.mc, .slice h.l m.lT.length h.lc, .slice h.i m.iT.length h.ic, .int .i64 m.dT, .int .i64 m.oT, .int .i64 m.vT, .int .i64 m.aT, .slice h.u m.uT.length h.uc], .int .i64 3, .int .i64 ((a : Int) + 1)] w (AnsB w (.int .i64 0)) := by
 have hb0 := (Below.refl w.heap.size w).alloc (Nat.le_refl _) (.cells #[.slice h.s m.sT.length h.sc, .slice h.f m.fT.length h.fc, .slice h.r m.rT.length h.rc, .slice h.m m.mT.length h.mc, .slice h.l m.lT.length h.lc, .slice h.i m.iT.length h.ic, .int .i64 m.dT, .int .i64 m.oT, .int .i64 m.vT, .int .i64 m.aT, .slice h.u m.uT.length h.uc] 29)
 have y1 := (hb0.cell (p := ⟨b, off + a * 3 + 1, none⟩) hb).trans x1
 have y2 := (hb0.cell (p := ⟨b2, off2 + q * 3 + 1, none⟩) hb2).trans x2
 have y3 := (hb0.cell (p := ⟨b2, off2 + q * 3 + 2, none⟩) hb2).trans x3
 have bl := Nat.lt_of_lt_of_le hb hb0.size
 have bl2 := Nat.lt_of_lt_of_le hb2 hb0.size
 have HB := hide hb0
 have HX := hide hx
 have HR := hide hr
 have HE := hide hq
 have HDS := hide (domains_ref h m 3 (w.alloc (.cells #[.slice h.s m.sT.length h.sc, .slice h.f m.fT.length h.fc, .slice h.r m.rT.length h.rc, .slice h.m m.mT.length h.mc, .slice h.l m.lT.length h.lc, .slice h.i m.iT.length h.ic, .int .i64 m.dT, .int .i64 m.oT, .int .i64 m.vT, .int .i64 m.aT, .slice h.u m.uT.length h.uc] 29)))
 rw [hA, hA2] at HDS HB y1 y2 y3 bl bl2 ⊢
 clear hb0 hx hr hq x1 x2 x3 hb hb2 hA hA2
 go_enter Tryz.func23, Tryz.ntmps23
 go_wp2_with (first
  | (go_at_call 51; refine (exists_ref _ _ _).mono ?_; rintro e w2 ⟨rfl, rfl⟩; first | rw [HX.out] | rw [HR.out] | rw [HE.out])
  | (go_at_call 52; refine HDS.out.mono ?_; rintro e w3 ⟨rfl, hb3⟩))
 go_ret
 exact ⟨rfl, HB.out.trans (hb3.mono HB.out.size)⟩
theorem domR_3t (h : MH) (m : Mod) (a q : Nat) (b off b2 off2 : Nat) (r1 r2 : Int) (w : World) (hA : h.m = some ⟨b, off, none⟩) (hb : b < w.heap.size) (x1 : w.cell? ⟨b, off + a * 3 + 1, none⟩ = some (.int .i64 ((q : Int) + 1))) (hA2 : h.r = some ⟨b2, off2, none⟩) (hb2 : b2 < w.heap.size) (x2 : w.cell? ⟨b2, off2 + q * 3 + 1, none⟩ = some (.int .i64 r1)) (x3 : w.cell? ⟨b2, off2 + q * 3 + 2, none⟩ = some (.int .i64 r2)) (haI : (a : Int) < (m.mT.length : Int)) (hqI : (q : Int) < (m.rT.length : Int)) (hl : m.mT.length ≤ 9223372036854775807) (hl2 : m.rT.length ≤ 9223372036854775807) (hx : exI ((a : Int) + 1) m.mT.length = true) (hr : exI ((q : Int) + 1) m.rT.length = true) (hq : exI r2 (domsI m 3) = true) :
    Calls Tryz.prog 23 #[.agg #[.slice h.s m.sT.length h.sc, .slice h.f m.fT.length h.fc, .slice h.r m.rT.length h.rc, .slice h.m m.mT.length h.mc, .slice h.l m.lT.length h.lc, .slice h.i m.iT.length h.ic, .int .i64 m.dT, .int .i64 m.oT, .int .i64 m.vT, .int .i64 m.aT, .slice h.u m.uT.length h.uc], .int .i64 3, .int .i64 ((a : Int) + 1)] w (AnsB w (.int .i64 r2)) := by
 have hb0 := (Below.refl w.heap.size w).alloc (Nat.le_refl _) (.cells #[.slice h.s m.sT.length h.sc, .slice h.f m.fT.length h.fc, .slice h.r m.rT.length h.rc, .slice h.m m.mT.length h.mc, .slice h.l m.lT.length h.lc, .slice h.i m.iT.length h.ic, .int .i64 m.dT, .int .i64 m.oT, .int .i64 m.vT, .int .i64 m.aT, .slice h.u m.uT.length h.uc] 29)
 have y1 := (hb0.cell (p := ⟨b, off + a * 3 + 1, none⟩) hb).trans x1
 have y2 := (hb0.cell (p := ⟨b2, off2 + q * 3 + 1, none⟩) hb2).trans x2
 have y3 := (hb0.cell (p := ⟨b2, off2 + q * 3 + 2, none⟩) hb2).trans x3
 have bl := Nat.lt_of_lt_of_le hb hb0.size
 have bl2 := Nat.lt_of_lt_of_le hb2 hb0.size
 have HB := hide hb0
 have HX := hide hx
 have HR := hide hr
 have HE := hide hq
 have HDS := hide (domains_ref h m 3 (w.alloc (.cells #[.slice h.s m.sT.length h.sc, .slice h.f m.fT.length h.fc, .slice h.r m.rT.length h.rc, .slice h.m m.mT.length h.mc, .slice h.l m.lT.length h.lc, .slice h.i m.iT.length h.ic, .int .i64 m.dT, .int .i64 m.oT, .int .i64 m.vT, .int .i64 m.aT, .slice h.u m.uT.length h.uc] 29)))
 rw [hA, hA2] at HDS HB y1 y2 y3 bl bl2 ⊢
 clear hb0 hx hr hq x1 x2 x3 hb hb2 hA hA2
 go_enter Tryz.func23, Tryz.ntmps23
 go_wp2_with (first
  | (go_at_call 51; refine (exists_ref _ _ _).mono ?_; rintro e w2 ⟨rfl, rfl⟩; first | rw [HX.out] | rw [HR.out] | rw [HE.out])
  | (go_at_call 52; refine HDS.out.mono ?_; rintro e w3 ⟨rfl, hb3⟩))
 go_ret
 exact ⟨rfl, HB.out.trans (hb3.mono HB.out.size)⟩
theorem domR_4f (h : MH) (m : Mod) (a q : Nat) (b off b2 off2 : Nat) (r1 r2 : Int) (w : World) (hA : h.m = some ⟨b, off, none⟩) (hb : b < w.heap.size) (x1 : w.cell? ⟨b, off + a * 3 + 1, none⟩ = some (.int .i64 ((q : Int) + 1))) (hA2 : h.r = some ⟨b2, off2, none⟩) (hb2 : b2 < w.heap.size) (x2 : w.cell? ⟨b2, off2 + q * 3 + 1, none⟩ = some (.int .i64 r1)) (x3 : w.cell? ⟨b2, off2 + q * 3 + 2, none⟩ = some (.int .i64 r2)) (haI : (a : Int) < (m.mT.length : Int)) (hqI : (q : Int) < (m.rT.length : Int)) (hl : m.mT.length ≤ 9223372036854775807) (hl2 : m.rT.length ≤ 9223372036854775807) (hx : exI ((a : Int) + 1) m.mT.length = true) (hr : exI ((q : Int) + 1) m.rT.length = true) (hq : exI r1 (domsI m 4) = false) :
    Calls Tryz.prog 23 #[.agg #[.slice h.s m.sT.length h.sc, .slice h.f m.fT.length h.fc, .slice h.r m.rT.length h.rc, .slice h.m m.mT.length h.mc, .slice h.l m.lT.length h.lc, .slice h.i m.iT.length h.ic, .int .i64 m.dT, .int .i64 m.oT, .int .i64 m.vT, .int .i64 m.aT, .slice h.u m.uT.length h.uc], .int .i64 4, .int .i64 ((a : Int) + 1)] w (AnsB w (.int .i64 0)) := by
 have hb0 := (Below.refl w.heap.size w).alloc (Nat.le_refl _) (.cells #[.slice h.s m.sT.length h.sc, .slice h.f m.fT.length h.fc, .slice h.r m.rT.length h.rc, .slice h.m m.mT.length h.mc, .slice h.l m.lT.length h.lc, .slice h.i m.iT.length h.ic, .int .i64 m.dT, .int .i64 m.oT, .int .i64 m.vT, .int .i64 m.aT, .slice h.u m.uT.length h.uc] 29)
 have y1 := (hb0.cell (p := ⟨b, off + a * 3 + 1, none⟩) hb).trans x1
 have y2 := (hb0.cell (p := ⟨b2, off2 + q * 3 + 1, none⟩) hb2).trans x2
 have y3 := (hb0.cell (p := ⟨b2, off2 + q * 3 + 2, none⟩) hb2).trans x3
 have bl := Nat.lt_of_lt_of_le hb hb0.size
 have bl2 := Nat.lt_of_lt_of_le hb2 hb0.size
 have HB := hide hb0
 have HX := hide hx
 have HR := hide hr
 have HE := hide hq
 have HDS := hide (domains_ref h m 4 (w.alloc (.cells #[.slice h.s m.sT.length h.sc, .slice h.f m.fT.length h.fc, .slice h.r m.rT.length h.rc, .slice h.m m.mT.length h.mc, .slice h.l m.lT.length h.lc, .slice h.i m.iT.length h.ic, .int .i64 m.dT, .int .i64 m.oT, .int .i64 m.vT, .int .i64 m.aT, .slice h.u m.uT.length h.uc] 29)))
 rw [hA, hA2] at HDS HB y1 y2 y3 bl bl2 ⊢
 clear hb0 hx hr hq x1 x2 x3 hb hb2 hA hA2
 go_enter Tryz.func23, Tryz.ntmps23
 go_wp2_with (first
  | (go_at_call 51; refine (exists_ref _ _ _).mono ?_; rintro e w2 ⟨rfl, rfl⟩; first | rw [HX.out] | rw [HR.out] | rw [HE.out])
  | (go_at_call 52; refine HDS.out.mono ?_; rintro e w3 ⟨rfl, hb3⟩))
 go_ret
 exact ⟨rfl, HB.out.trans (hb3.mono HB.out.size)⟩
theorem domR_4t (h : MH) (m : Mod) (a q : Nat) (b off b2 off2 : Nat) (r1 r2 : Int) (w : World) (hA : h.m = some ⟨b, off, none⟩) (hb : b < w.heap.size) (x1 : w.cell? ⟨b, off + a * 3 + 1, none⟩ = some (.int .i64 ((q : Int) + 1))) (hA2 : h.r = some ⟨b2, off2, none⟩) (hb2 : b2 < w.heap.size) (x2 : w.cell? ⟨b2, off2 + q * 3 + 1, none⟩ = some (.int .i64 r1)) (x3 : w.cell? ⟨b2, off2 + q * 3 + 2, none⟩ = some (.int .i64 r2)) (haI : (a : Int) < (m.mT.length : Int)) (hqI : (q : Int) < (m.rT.length : Int)) (hl : m.mT.length ≤ 9223372036854775807) (hl2 : m.rT.length ≤ 9223372036854775807) (hx : exI ((a : Int) + 1) m.mT.length = true) (hr : exI ((q : Int) + 1) m.rT.length = true) (hq : exI r1 (domsI m 4) = true) :
    Calls Tryz.prog 23 #[.agg #[.slice h.s m.sT.length h.sc, .slice h.f m.fT.length h.fc, .slice h.r m.rT.length h.rc, .slice h.m m.mT.length h.mc, .slice h.l m.lT.length h.lc, .slice h.i m.iT.length h.ic, .int .i64 m.dT, .int .i64 m.oT, .int .i64 m.vT, .int .i64 m.aT, .slice h.u m.uT.length h.uc], .int .i64 4, .int .i64 ((a : Int) + 1)] w (AnsB w (.int .i64 r1)) := by
 have hb0 := (Below.refl w.heap.size w).alloc (Nat.le_refl _) (.cells #[.slice h.s m.sT.length h.sc, .slice h.f m.fT.length h.fc, .slice h.r m.rT.length h.rc, .slice h.m m.mT.length h.mc, .slice h.l m.lT.length h.lc, .slice h.i m.iT.length h.ic, .int .i64 m.dT, .int .i64 m.oT, .int .i64 m.vT, .int .i64 m.aT, .slice h.u m.uT.length h.uc] 29)
 have y1 := (hb0.cell (p := ⟨b, off + a * 3 + 1, none⟩) hb).trans x1
 have y2 := (hb0.cell (p := ⟨b2, off2 + q * 3 + 1, none⟩) hb2).trans x2
 have y3 := (hb0.cell (p := ⟨b2, off2 + q * 3 + 2, none⟩) hb2).trans x3
 have bl := Nat.lt_of_lt_of_le hb hb0.size
 have bl2 := Nat.lt_of_lt_of_le hb2 hb0.size
 have HB := hide hb0
 have HX := hide hx
 have HR := hide hr
 have HE := hide hq
 have HDS := hide (domains_ref h m 4 (w.alloc (.cells #[.slice h.s m.sT.length h.sc, .slice h.f m.fT.length h.fc, .slice h.r m.rT.length h.rc, .slice h.m m.mT.length h.mc, .slice h.l m.lT.length h.lc, .slice h.i m.iT.length h.ic, .int .i64 m.dT, .int .i64 m.oT, .int .i64 m.vT, .int .i64 m.aT, .slice h.u m.uT.length h.uc] 29)))
 rw [hA, hA2] at HDS HB y1 y2 y3 bl bl2 ⊢
 clear hb0 hx hr hq x1 x2 x3 hb hb2 hA hA2
 go_enter Tryz.func23, Tryz.ntmps23
 go_wp2_with (first
  | (go_at_call 51; refine (exists_ref _ _ _).mono ?_; rintro e w2 ⟨rfl, rfl⟩; first | rw [HX.out] | rw [HR.out] | rw [HE.out])
  | (go_at_call 52; refine HDS.out.mono ?_; rintro e w3 ⟨rfl, hb3⟩))
 go_ret
 exact ⟨rfl, HB.out.trans (hb3.mono HB.out.size)⟩
theorem domR_of (h : MH) (m : Mod) (by_ : Int) (a q : Nat) (b off b2 off2 : Nat) (r1 r2 : Int) (w : World) (hA : h.m = some ⟨b, off, none⟩) (hb : b < w.heap.size) (x1 : w.cell? ⟨b, off + a * 3 + 1, none⟩ = some (.int .i64 ((q : Int) + 1))) (hA2 : h.r = some ⟨b2, off2, none⟩) (hb2 : b2 < w.heap.size) (x2 : w.cell? ⟨b2, off2 + q * 3 + 1, none⟩ = some (.int .i64 r1)) (x3 : w.cell? ⟨b2, off2 + q * 3 + 2, none⟩ = some (.int .i64 r2)) (haI : (a : Int) < (m.mT.length : Int)) (_hqI : (q : Int) < (m.rT.length : Int)) (hl : m.mT.length ≤ 9223372036854775807) (_hl2 : m.rT.length ≤ 9223372036854775807) (g1 : (by_ == 1) = false) (g3 : (by_ == 3) = false) (g4 : (by_ == 4) = false) (hx : exI ((a : Int) + 1) m.mT.length = true) (hr : exI ((q : Int) + 1) m.rT.length = true) (hq : exI ((q : Int) + 1) (domsI m by_) = false) :
    Calls Tryz.prog 23 #[.agg #[.slice h.s m.sT.length h.sc, .slice h.f m.fT.length h.fc, .slice h.r m.rT.length h.rc, .slice h.m m.mT.length h.mc, .slice h.l m.lT.length h.lc, .slice h.i m.iT.length h.ic, .int .i64 m.dT, .int .i64 m.oT, .int .i64 m.vT, .int .i64 m.aT, .slice h.u m.uT.length h.uc], .int .i64 by_, .int .i64 ((a : Int) + 1)] w (AnsB w (.int .i64 0)) := by
 have hb0 := (Below.refl w.heap.size w).alloc (Nat.le_refl _) (.cells #[.slice h.s m.sT.length h.sc, .slice h.f m.fT.length h.fc, .slice h.r m.rT.length h.rc, .slice h.m m.mT.length h.mc, .slice h.l m.lT.length h.lc, .slice h.i m.iT.length h.ic, .int .i64 m.dT, .int .i64 m.oT, .int .i64 m.vT, .int .i64 m.aT, .slice h.u m.uT.length h.uc] 29)
 have y1 := (hb0.cell (p := ⟨b, off + a * 3 + 1, none⟩) hb).trans x1
 have y2 := (hb0.cell (p := ⟨b2, off2 + q * 3 + 1, none⟩) hb2).trans x2
 have y3 := (hb0.cell (p := ⟨b2, off2 + q * 3 + 2, none⟩) hb2).trans x3
 have bl := Nat.lt_of_lt_of_le hb hb0.size
 have bl2 := Nat.lt_of_lt_of_le hb2 hb0.size
 have HB := hide hb0
 have HX := hide hx
 have HR := hide hr
 have HE := hide hq
 have HDS := hide (domains_ref h m by_ (w.alloc (.cells #[.slice h.s m.sT.length h.sc, .slice h.f m.fT.length h.fc, .slice h.r m.rT.length h.rc, .slice h.m m.mT.length h.mc, .slice h.l m.lT.length h.lc, .slice h.i m.iT.length h.ic, .int .i64 m.dT, .int .i64 m.oT, .int .i64 m.vT, .int .i64 m.aT, .slice h.u m.uT.length h.uc] 29)))
 rw [hA, hA2] at HDS HB y1 y2 y3 bl bl2 ⊢
 clear hb0 hx hr hq x1 x2 x3 hb hb2 hA hA2
 go_enter Tryz.func23, Tryz.ntmps23
 go_wp2_with (first
  | (go_at_call 51; refine (exists_ref _ _ _).mono ?_; rintro e w2 ⟨rfl, rfl⟩; first | rw [HX.out] | rw [HR.out] | rw [HE.out])
  | (go_at_call 52; refine HDS.out.mono ?_; rintro e w3 ⟨rfl, hb3⟩))
 go_ret
 exact ⟨rfl, HB.out.trans (hb3.mono HB.out.size)⟩
theorem domR_ot (h : MH) (m : Mod) (by_ : Int) (a q : Nat) (b off b2 off2 : Nat) (r1 r2 : Int) (w : World) (hA : h.m = some ⟨b, off, none⟩) (hb : b < w.heap.size) (x1 : w.cell? ⟨b, off + a * 3 + 1, none⟩ = some (.int .i64 ((q : Int) + 1))) (hA2 : h.r = some ⟨b2, off2, none⟩) (hb2 : b2 < w.heap.size) (x2 : w.cell? ⟨b2, off2 + q * 3 + 1, none⟩ = some (.int .i64 r1)) (x3 : w.cell? ⟨b2, off2 + q * 3 + 2, none⟩ = some (.int .i64 r2)) (haI : (a : Int) < (m.mT.length : Int)) (_hqI : (q : Int) < (m.rT.length : Int)) (hl : m.mT.length ≤ 9223372036854775807) (_hl2 : m.rT.length ≤ 9223372036854775807) (g1 : (by_ == 1) = false) (g3 : (by_ == 3) = false) (g4 : (by_ == 4) = false) (hx : exI ((a : Int) + 1) m.mT.length = true) (hr : exI ((q : Int) + 1) m.rT.length = true) (hq : exI ((q : Int) + 1) (domsI m by_) = true) :
    Calls Tryz.prog 23 #[.agg #[.slice h.s m.sT.length h.sc, .slice h.f m.fT.length h.fc, .slice h.r m.rT.length h.rc, .slice h.m m.mT.length h.mc, .slice h.l m.lT.length h.lc, .slice h.i m.iT.length h.ic, .int .i64 m.dT, .int .i64 m.oT, .int .i64 m.vT, .int .i64 m.aT, .slice h.u m.uT.length h.uc], .int .i64 by_, .int .i64 ((a : Int) + 1)] w (AnsB w (.int .i64 ((q : Int) + 1))) := by
 have hb0 := (Below.refl w.heap.size w).alloc (Nat.le_refl _) (.cells #[.slice h.s m.sT.length h.sc, .slice h.f m.fT.length h.fc, .slice h.r m.rT.length h.rc, .slice h.m m.mT.length h.mc, .slice h.l m.lT.length h.lc, .slice h.i m.iT.length h.ic, .int .i64 m.dT, .int .i64 m.oT, .int .i64 m.vT, .int .i64 m.aT, .slice h.u m.uT.length h.uc] 29)
 have y1 := (hb0.cell (p := ⟨b, off + a * 3 + 1, none⟩) hb).trans x1
 have y2 := (hb0.cell (p := ⟨b2, off2 + q * 3 + 1, none⟩) hb2).trans x2
 have y3 := (hb0.cell (p := ⟨b2, off2 + q * 3 + 2, none⟩) hb2).trans x3
 have bl := Nat.lt_of_lt_of_le hb hb0.size
 have bl2 := Nat.lt_of_lt_of_le hb2 hb0.size
 have HB := hide hb0
 have HX := hide hx
 have HR := hide hr
 have HE := hide hq
 have HDS := hide (domains_ref h m by_ (w.alloc (.cells #[.slice h.s m.sT.length h.sc, .slice h.f m.fT.length h.fc, .slice h.r m.rT.length h.rc, .slice h.m m.mT.length h.mc, .slice h.l m.lT.length h.lc, .slice h.i m.iT.length h.ic, .int .i64 m.dT, .int .i64 m.oT, .int .i64 m.vT, .int .i64 m.aT, .slice h.u m.uT.length h.uc] 29)))
 rw [hA, hA2] at HDS HB y1 y2 y3 bl bl2 ⊢
 clear hb0 hx hr hq x1 x2 x3 hb hb2 hA hA2
 go_enter Tryz.func23, Tryz.ntmps23
 go_wp2_with (first
  | (go_at_call 51; refine (exists_ref _ _ _).mono ?_; rintro e w2 ⟨rfl, rfl⟩; first | rw [HX.out] | rw [HR.out] | rw [HE.out])
  | (go_at_call 52; refine HDS.out.mono ?_; rintro e w3 ⟨rfl, hb3⟩))
 go_ret
 exact ⟨rfl, HB.out.trans (hb3.mono HB.out.size)⟩
theorem domI_of {m : Mod} {by_ mc n : Int} (hx : exI mc m.mT.length = true) (hn : domN m by_ mc = n) : domI m by_ mc = if exI n (domsI m by_) = true then n else 0 := by
 unfold domI
 rw [hx, hn, Bool.true_and]
theorem domain_ref (h : MH) (m : Mod) (by_ mc : Int) (w : World) (d : MD w w.heap.size h m) : Calls Tryz.prog 23 #[.agg #[.slice h.s m.sT.length h.sc, .slice h.f m.fT.length h.fc, .slice h.r m.rT.length h.rc, .slice h.m m.mT.length h.mc, .slice h.l m.lT.length h.lc, .slice h.i m.iT.length h.ic, .int .i64 m.dT, .int .i64 m.oT, .int .i64 m.vT, .int .i64 m.aT, .slice h.u m.uT.length h.uc], .int .i64 by_, .int .i64 mc] w (AnsB w (.int .i64 (domI m by_ mc))) := by
 have hB : ∀ b : Bool, b = false ∨ b = true := fun b => by cases b <;> simp
 rcases hB (exI mc m.mT.length) with hx | hx
 · rw [show domI m by_ mc = 0 by simp [domI, hx]]
   exact domR_nomach h m by_ mc w d.ml hx
 have hx2 := hx
 simp only [exI, Bool.and_eq_true, decide_eq_true_eq] at hx2
 obtain ⟨a, ha, rfl⟩ : ∃ a : Nat, a < m.mT.length ∧ mc = (a : Int) + 1 := ⟨(mc - 1).toNat, by omega, by omega⟩
 by_cases h1 : by_ = 1
 · subst h1
   rw [domI_of hx (show domN m 1 ((a : Int) + 1) = (a : Int) + 1 by simp [domN])]
   rcases hB (exI ((a : Int) + 1) (domsI m 1)) with hq | hq
   · rw [hq]; exact domR_1f h m _ w d.ml hx hq
   · rw [hq]; exact domR_1t h m _ w d.ml hx hq
 have g1 : (by_ == 1) = false := by simpa using h1
 obtain ⟨b, off, eA, hb, _, x1, _⟩ := d.dM.mach ha
 have hN : domN m by_ ((a : Int) + 1) = if exI m.mT[a].rack m.rT.length then (match m.rT[(m.mT[a].rack - 1).toNat]? with
       | none => 0
       | some r => if by_ = 3 then r.feed else if by_ = 4 then r.site else m.mT[a].rack) else 0 := by
  have : ((a : Int) + 1 - 1).toNat = a := by omega
  simp [domN, h1, ha]
  rfl
 rcases hB (exI m.mT[a].rack m.rT.length) with hr | hr
 · rw [domI_of hx hN, hr]
   simp only [Bool.false_eq_true, ↓reduceIte]
   rw [show (if exI 0 (domsI m by_) = true then (0 : Int) else 0) = 0 by split <;> rfl]
   exact domR_norack h m by_ a _ b off w eA hb x1 (by omega) d.ml d.rl g1 hx hr
 have hr2 := hr
 simp only [exI, Bool.and_eq_true, decide_eq_true_eq] at hr2
 obtain ⟨q, hq, hqe⟩ : ∃ q : Nat, q < m.rT.length ∧ m.mT[a].rack = (q : Int) + 1 := ⟨(m.mT[a].rack - 1).toNat, by omega, by omega⟩
 obtain ⟨b2, off2, eA2, hb2, _, y1, y2⟩ := d.dR.rack hq
 rw [hr, if_pos rfl, hqe, show ((q : Int) + 1 - 1).toNat = q by omega, List.getElem?_eq_getElem hq] at hN
 simp only at hN
 rw [hqe] at x1 hr
 rw [domI_of hx hN]
 by_cases h3 : by_ = 3
 · subst h3
   rw [if_pos rfl]
   rcases hB (exI m.rT[q].feed (domsI m 3)) with hz | hz
   · rw [hz]; exact domR_3f h m a q b off b2 off2 m.rT[q].site m.rT[q].feed w eA hb x1 eA2 hb2 y1 y2.1 (by omega) (by omega) d.ml d.rl hx hr hz
   · rw [hz]; exact domR_3t h m a q b off b2 off2 m.rT[q].site m.rT[q].feed w eA hb x1 eA2 hb2 y1 y2.1 (by omega) (by omega) d.ml d.rl hx hr hz
 rw [if_neg h3]
 have g3 : (by_ == 3) = false := by simpa using h3
 by_cases h4 : by_ = 4
 · subst h4
   rw [if_pos rfl]
   rcases hB (exI m.rT[q].site (domsI m 4)) with hz | hz
   · rw [hz]; exact domR_4f h m a q b off b2 off2 m.rT[q].site m.rT[q].feed w eA hb x1 eA2 hb2 y1 y2.1 (by omega) (by omega) d.ml d.rl hx hr hz
   · rw [hz]; exact domR_4t h m a q b off b2 off2 m.rT[q].site m.rT[q].feed w eA hb x1 eA2 hb2 y1 y2.1 (by omega) (by omega) d.ml d.rl hx hr hz
 rw [if_neg h4]
 have g4 : (by_ == 4) = false := by simpa using h4
 rcases hB (exI ((q : Int) + 1) (domsI m by_)) with hz | hz
 · rw [hz]; exact domR_of h m by_ a q b off b2 off2 m.rT[q].site m.rT[q].feed w eA hb x1 eA2 hb2 y1 y2.1 (by omega) (by omega) d.ml d.rl g1 g3 g4 hx hr hz
 · rw [hz]; exact domR_ot h m by_ a q b off b2 off2 m.rT[q].site m.rT[q].feed w eA hb x1 eA2 hb2 y1 y2.1 (by omega) (by omega) d.ml d.rl g1 g3 g4 hx hr hz
def PR (w : World) (B : Nat) (A : Option Addr) (p : PlaceM) : Prop := ∀ i (hi : i < p.length), ∃ b off A2 c2, A = some ⟨b, off, none⟩ ∧ b < B ∧ w.cell? ⟨b, off + i, none⟩ = some (.slice A2 p[i].length c2) ∧ p[i].length ≤ c2 ∧ c2 ≤ 9223372036854775807 ∧ FR w B A2 p[i]
theorem PR.below {w w' : World} {B : Nat} {A : Option Addr} {p : PlaceM} (h : PR w B A p) (hb : Below B w w') : PR w' B A p := fun i hi => by
 obtain ⟨b, off, A2, c2, e, hl, hc, h1, h2, h3⟩ := h i hi
 exact ⟨b, off, A2, c2, e, hl, (hb.cell (p := ⟨b, off + i, none⟩) hl).trans hc, h1, h2, h3.below hb⟩
theorem PR.more {w : World} {B B' : Nat} {A : Option Addr} {p : PlaceM} (h : PR w B A p) (hb : B ≤ B') : PR w B' A p := fun i hi => by
 obtain ⟨b, off, A2, c2, e, hl, hc, h1, h2, h3⟩ := h i hi
 exact ⟨b, off, A2, c2, e, Nat.lt_of_lt_of_le hl hb, hc, h1, h2, h3.more hb⟩
theorem PR.grow {w w' : World} {A : Option Addr} {p : PlaceM} (h : PR w w.heap.size A p) (hb : Below w.heap.size w w') : PR w' w'.heap.size A p := (h.below hb).more hb.size
theorem UT.fr {w : World} {A : Option Addr} {c : Nat} {l : List UnitM} (h : UT w (.slice A l.length c) l) : FR w w.heap.size A l := by
 unfold FR
 by_cases hl : 0 < l.length
 · obtain ⟨g, off, rfl, hg, _, _⟩ := h.some_ hl
   exact ⟨by rw [unitCells_len], fun _ => ⟨⟨g, off, none⟩, rfl, hg, fun j u hu => by rw [add_none]; exact h.cellsAt hl j u hu⟩⟩
 · have : l = [] := List.eq_nil_of_length_eq_zero (by omega)
   subst this
   exact ⟨rfl, fun h0 => absurd h0 (by simp)⟩
theorem PT.pr {w : World} {A : Option Addr} {c : Nat} {p : PlaceM} (h : PT w (.slice A p.length c) p) : PR w w.heap.size A p := fun i hi => by
 obtain ⟨b, off, A2, c2, e, hb, hc, hu⟩ := h.at_ hi
 obtain ⟨A3, c3, e3, h1, h2⟩ := hu.form
 injection e3 with e4 e5 e6
 subst e4 e6
 exact ⟨b, off, A2, c2, e, hb, hc, h1, h2, hu.fr⟩
def UnitsQ (w : World) (l : List UnitM) (e : Ending) (w' : World) : Prop := ∃ A c, e = .returned (.slice A l.length c) ∧ FR w' w'.heap.size A l ∧ Below w.heap.size w w'
theorem units_rd (A : Option Addr) (c : Nat) (p : PlaceM) (item : Int) (w : World) (h : PR w w.heap.size A p) (hl : p.length ≤ 9223372036854775807) :
    Calls Tryz.prog 50 #[.agg #[.slice A p.length c], .int .i64 item] w (UnitsQ w (unitsP p item)) := by
 have HB := hide ((Below.refl w.heap.size w).alloc (Nat.le_refl _) (.cells #[.slice A p.length c] 64))
 cases e1 : exI item p.length
 · have HU := hide (unitsP_no e1)
   go_enter Tryz.func50, Tryz.ntmps50
   go_wp2_with (go_at_call 51; refine (exists_ref _ _ _).mono ?_; rintro e w2 ⟨rfl, rfl⟩)
   go_ret
   rw [HU.out]
   exact ⟨none, 0, rfl, ⟨rfl, fun h0 => absurd h0 (by simp)⟩, HB.out⟩
 · have hit : 1 ≤ item ∧ item ≤ (p.length : Int) := by simpa [exI] using e1
   obtain ⟨j, hj, rfl⟩ : ∃ j : Nat, j < p.length ∧ item = (j : Int) + 1 := ⟨(item - 1).toNat, by omega, by omega⟩
   obtain ⟨b, off, A2, c2, rfl, hb, x0, _, _, hu⟩ := h j hj
   have HU := hide (unitsP_yes hj)
   have HT := hide hu
   have hjI : (j : Int) < (p.length : Int) := by omega
   clear hu h hit
   go_enter Tryz.func50, Tryz.ntmps50
   go_wp2_with (go_at_call 51; refine (exists_ref _ _ _).mono ?_; rintro e w2 ⟨rfl, rfl⟩)
   go_ret
   rw [HU.out]
   exact ⟨A2, c2, rfl, (HT.out.below HB.out).more HB.out.size, HB.out⟩
theorem index_rd (A : Option Addr) (c : Nat) (l : List UnitM) (mc : Int) (w : World) (hl : l.length ≤ 9223372036854775807) (h : FR w w.heap.size A l) :
    Calls Tryz.prog 94 #[.slice A l.length c, .int .i64 mc] w fun e w' => e = .returned (.int .i64 (findI l mc)) ∧ w = w' := by
 go_enter Tryz.func94, Tryz.ntmps94
 go_wp2_with fail
 go_loop [5] (fun i => ∃ k : Nat, k ≤ l.length ∧ i = .int .i64 k ∧ Hid (∀ j (hj : j < l.length), j < k → (fun u : UnitM => decide (u.1 = mc)) l[j] = false)) (fun i => l.length - (intOf i).toNat)
 case atStart => exact ⟨0, Nat.zero_le _, rfl, fun j hj h0 => absurd h0 (by omega)⟩
 case round =>
  obtain ⟨k, hk, rfl, hs⟩ := hrel
  by_cases hlt : k < l.length
  · obtain ⟨b, off, hA, hb, x0, x1⟩ := h.at_ hlt
    subst hA
    by_cases e1 : l[k].1 = mc
    · have g1 : (l[k].1 == mc) = true := by simpa using e1
      have HF := hide (firstI_at (p := fun u : UnitM => decide (u.1 = mc)) hlt (by simpa using e1) hs)
      clear e1
      go_wp2_with fail
      go_ret
      exact ⟨ret_congr (by rw [findI, HF.out]; rfl), rfl⟩
    · have g1 : (l[k].1 == mc) = false := by simpa using e1
      have HK := hide e1
      clear e1
      go_wp2_with fail
      go_round
      case rel => exact ⟨k + 1, by omega, by go_num, fun j hj h1 => by
       rcases Nat.lt_or_ge j k with h2 | h2
       · exact hs j hj h2
       · obtain rfl : j = k := by omega
         simpa using HK.out⟩
      case measure => simp [intOf]; omega
  · have HF := hide (firstI_none (p := fun u : UnitM => decide (u.1 = mc)) fun j hj => hs j hj (by omega))
    go_wp2_with fail
    go_ret
    exact ⟨ret_congr (by rw [findI, HF.out]; rfl), rfl⟩
def stateP (p : PlaceM) (item mc : Int) : Option Int := ((unitsP p item).find? fun u => decide (u.1 = mc)).map (·.2)
theorem find_findIdx {l : List UnitM} {f : UnitM → Bool} : l.find? f = match l.findIdx? f with | some i => l[i]? | none => none := by
 induction l with
 | nil => rfl
 | cons a l ih =>
   rw [List.find?_cons, List.findIdx?_cons]
   cases h : f a
   · simp only [Bool.false_eq_true, ↓reduceIte]
     rw [ih]
     cases l.findIdx? f <;> simp
   · simp
theorem state_ref (A : Option Addr) (c : Nat) (p : PlaceM) (item mc : Int) (w : World) (h : PR w w.heap.size A p) (hl : p.length ≤ 9223372036854775807) (hul : (unitsP p item).length ≤ 9223372036854775807) :
    Calls Tryz.prog 49 #[.agg #[.slice A p.length c], .int .i64 item, .int .i64 mc] w (AnsB w (.tuple #[.int .i64 ((stateP p item mc).getD 0), .bool (stateP p item mc).isSome])) := by
 have hb := (Below.refl w.heap.size w).alloc (Nat.le_refl _) (.cells #[.slice A p.length c] 64)
 have HB := hide hb
 have HU := hide (units_rd A c p item _ (h.grow hb) hl)
 have hst : stateP p item mc = (match findU (unitsP p item) mc with | some i => ((unitsP p item)[i]?) | none => none).map (fun u : UnitM => u.2) := by rw [stateP, find_findIdx]; rfl
 have hfi := findI_eq (unitsP p item) mc
 obtain ⟨L, hL⟩ : ∃ L, L = unitsP p item := ⟨_, rfl⟩
 rw [← hL] at HU hst hfi hul
 cases hf : findU L mc with
 | none =>
   rw [hf] at hst hfi
   have HS := hide (show stateP p item mc = none by rw [hst]; rfl)
   have HF := hide hfi
   clear hst hfi hf hb h hL
   go_enter Tryz.func49, Tryz.ntmps49
   go_wp2_with (first
    | (go_at_call 50; refine HU.out.mono ?_; rintro e w1 ⟨A2, c2, rfl, hr, hb1⟩; have HI := hide (index_rd A2 c2 L mc w1 hul hr); rw [HF.out] at HI; have HB1 := hide hb1; clear hr hb1)
    | (go_at_call 94; refine HI.out.mono ?_; rintro e w2 ⟨rfl, rfl⟩))
   go_ret2
   rw [HS.out]
   exact ⟨rfl, HB.out.trans (HB1.out.mono HB.out.size)⟩
 | some i =>
   rw [hf] at hst hfi
   have hil : i < L.length := by
    unfold findU at hf
    rw [List.findIdx?_eq_some_iff_getElem] at hf
    exact hf.1
   have HS := hide (show stateP p item mc = some L[i].2 by rw [hst]; simp [hil])
   have HF := hide hfi
   have hiI : (i : Int) < (L.length : Int) := by omega
   clear hst hfi hf hb h hL
   go_enter Tryz.func49, Tryz.ntmps49
   go_wp2_with (first
    | (go_at_call 50; refine HU.out.mono ?_; rintro e w1 ⟨A2, c2, rfl, hr, hb1⟩; have HI := hide (index_rd A2 c2 L mc w1 hul hr); rw [HF.out] at HI; have HB1 := hide hb1; obtain ⟨b, off, hA, hb, x0, x1⟩ := hr.at_ hil; subst hA; clear hr hb1)
    | (go_at_call 94; refine HI.out.mono ?_; rintro e w2 ⟨rfl, rfl⟩))
   go_ret2
   rw [HS.out]
   exact ⟨rfl, HB.out.trans (HB1.out.mono HB.out.size)⟩
def MacS (l : List UnitM) (st : Int) (w : World) (v i : Value) (wr : World) : Prop := ∃ k : Nat, k ≤ l.length ∧ i = .int .i64 k ∧ Hid (OwnI w.heap.size wr v (((l.take k).filter fun u => decide (u.2 = st)).map (·.1))) ∧ Below w.heap.size w wr
theorem machines_ref (A : Option Addr) (c : Nat) (p : PlaceM) (item st : Int) (w : World) (h : PR w w.heap.size A p) (hl : p.length ≤ 1000) (hul : (unitsP p item).length ≤ 1000) :
    Calls Tryz.prog 22 #[.agg #[.slice A p.length c], .int .i64 item, .int .i64 st] w (IntsR w (machinesP p item st)) := by
 have hb := (Below.refl w.heap.size w).alloc (Nat.le_refl _) (.cells #[.slice A p.length c] 64)
 have HB := hide hb
 have HU := hide (units_rd A c p item _ (h.grow hb) (by omega))
 have HMP := hide (show machinesP p item st = ((unitsP p item).filter fun u => decide (u.2 = st)).map (·.1) from rfl)
 obtain ⟨l, hL⟩ : ∃ l, l = unitsP p item := ⟨_, rfl⟩
 rw [← hL] at HU HMP hul
 clear hL hb h
 go_enter Tryz.func22, Tryz.ntmps22
 go_wp2_with (go_at_call 50; refine HU.out.mono ?_; rintro e w1 ⟨A2, c2, rfl, hr, hb1⟩
              have HR := hide hr
              have HB1 := hide (HB.out.trans (hb1.mono HB.out.size))
              have HO := hide (OwnI.new w1 [] (Nat.le_refl _) (by simp))
              clear hr hb1)
 have HB2 := hide (HB1.out.alloc HB1.out.size (.cells #[] 3))
 go_loopw [8, 9] (fun v i wr => MacS l st w1 v i wr) (fun _ i _ => l.length - (intOf i).toNat)
 case atStart => exact ⟨0, Nat.zero_le _, rfl, HO.out, (Below.refl _ _).alloc (Nat.le_refl _) _⟩
 case round =>
  clear HO
  obtain ⟨k, hk, rfl, hM, hbr⟩ := hrel
  by_cases hlt : k < l.length
  · obtain ⟨b, off, hA, hb, x0, x1⟩ := ((HR.out.below hbr).more hbr.size).at_ hlt
    subst hA
    obtain ⟨x, hx⟩ : ∃ x, x = l[k] := ⟨_, rfl⟩
    have hfx : ((l.take (k + 1)).filter fun u => decide (u.2 = st)).map (·.1) = ((l.take k).filter fun u => decide (u.2 = st)).map (·.1) ++ if x.2 = st then [x.1] else [] := by
     rw [List.take_succ_eq_append_getElem hlt, List.filter_append, hx, List.map_append]
     by_cases e : l[k].2 = st <;> simp [e]
    obtain ⟨q, hq⟩ : ∃ q, q = ((l.take k).filter fun u => decide (u.2 = st)).map (·.1) := ⟨_, rfl⟩
    have hql : q.length ≤ 1000 := by
     rw [hq]; have := List.length_filter_le (fun u : UnitM => decide (u.2 = st)) (l.take k); simp at this ⊢; omega
    rw [← hx] at x0 x1
    rw [← hq] at hM hfx
    have HFX := hide hfx
    have hbw := hide hbr
    clear hfx hx hq
    have hB : ∀ b : Bool, b = false ∨ b = true := fun b => by cases b <;> simp
    rcases hB (x.2 == st) with hpx | hpx
    · have HFY := hide (show (if x.2 = st then [x.1] else []) = [] by simp at hpx; simp [hpx])
      go_wp2_with fail
      go_roundw
      case rel => exact ⟨k + 1, by omega, by go_num, hide (by rw [HFX.out, HFY.out]; simpa using hM.out), hbw.out⟩
      case measure => simp [intOf]; omega
    · have HFY := hide (show (if x.2 = st then [x.1] else []) = [x.1] by simp at hpx; simp [hpx])
      have HO2 := hide (hM.out.alloc (.cells #[.int .i64 x.1] 3))
      have HR2 := hide (Ints.newRow2 wr 3 [x.1] rfl)
      have HZ := hide (show w1.heap.size ≤ (wr.alloc (.cells #[.int .i64 x.1] 3)).heap.size by have := hbw.out.size; simp; omega)
      go_wp2_with (at_builtin; refine append_ints rfl _ _ rfl w1.heap.size _ q rfl HO2.out (wr.heap.size + 1) (some ⟨wr.heap.size, 0, none⟩) _ [x.1] rfl HR2.out (by simp; omega) HZ.out ?_; intro v3 w3 ho3 hg3 _; have ho3 := hide ho3; have hg3 := hide hg3)
      have hb3 : Below w1.heap.size w1 w3 := (hbw.out.alloc hbw.out.size (.cells #[.int .i64 x.1] 3)).grown hg3.out (by have := hbw.out.size; simp; omega) (fun g hg => (HO2.out.lt g hg).1)
      go_roundw
      case rel => exact ⟨k + 1, by omega, by go_num, hide (by rw [HFX.out, HFY.out]; simpa using ho3.out), hb3⟩
      case measure => simp [intOf]; omega
  · obtain rfl : k = l.length := by omega
    have hM2 := hM.out
    rw [List.take_length, ← HMP.out] at hM2
    have HM := hide hM2
    clear hM hM2
    go_wp2_with fail
    go_ret
    exact ⟨_, rfl, own_lowerI HM.out HB1.out.size, HB1.out.trans (hbr.mono HB1.out.size)⟩
def SortU (n : Int) (l : List UnitM) : Prop := l.Pairwise (fun a b => a.1 < b.1) ∧ ∀ u ∈ l, 1 ≤ u.1 ∧ u.1 ≤ n
def SortP (n : Int) (p : PlaceM) : Prop := ∀ l ∈ p, SortU n l
theorem SortU.nil_ (n : Int) : SortU n [] := ⟨List.Pairwise.nil, fun u hu => by simp at hu⟩
theorem SortU.sub {n : Int} {l l' : List UnitM} (h : SortU n l) (hs : l'.Sublist l) : SortU n l' := ⟨h.1.sublist hs, fun u hu => h.2 u (hs.subset hu)⟩
theorem SortU.drop {n : Int} {l : List UnitM} (h : SortU n l) (mc : Int) : SortU n (dropU l mc) := by
 unfold dropU
 split
 · exact h
 · rename_i i hi
   rw [← List.eraseIdx_eq_take_drop_succ]
   exact h.sub (List.eraseIdx_sublist _ _)
theorem pair_set {l : List UnitM} {i : Nat} {u : UnitM} (hi : i < l.length) (h : l.Pairwise (fun a b => a.1 < b.1)) (e : l[i].1 = u.1) : (l.set i u).Pairwise (fun a b => a.1 < b.1) := by
 rw [List.pairwise_iff_getElem] at h ⊢
 intro a b ha hb hab
 have ha' : a < l.length := by simpa using ha
 have hb' : b < l.length := by simpa using hb
 have := h a b ha' hb' hab
 rw [List.getElem_set, List.getElem_set]
 split
 · rename_i h1; subst h1; rw [if_neg (by omega)]; rw [← e]; exact this
 · split
   · rename_i h2; subst h2; rw [← e]; exact this
   · exact this
theorem SortU.put {n : Int} {l : List UnitM} (h : SortU n l) {mc : Int} (st : Int) (h1 : 1 ≤ mc) (h2 : mc ≤ n) : SortU n (putU l mc st) := by
 unfold putU
 split
 · rename_i i hi
   unfold findU at hi
   rw [List.findIdx?_eq_some_iff_getElem] at hi
   obtain ⟨hl, hp, _⟩ := hi
   refine ⟨pair_set hl h.1 (by simpa using hp), fun u hu => ?_⟩
   rcases List.mem_or_eq_of_mem_set hu with h3 | h3
   · exact h.2 u h3
   · subst h3; exact ⟨h1, h2⟩
 · rename_i hn
   unfold findU at hn
   rw [List.findIdx?_eq_none_iff] at hn
   obtain ⟨a, ha⟩ : ∃ a, a = atU l mc := ⟨_, rfl⟩
   rw [← ha]
   have hlo : ∀ u ∈ l.take a, u.1 < mc := fun u hu => by
    obtain ⟨j, hj, rfl⟩ := List.getElem_of_mem hu
    have hj2 : j < a := by simp at hj; omega
    have hj3 : j < l.length := by simp at hj; omega
    rw [List.getElem_take]
    have hne := hn l[j] (List.getElem_mem hj3)
    simp at hne
    have hle : ¬ mc < l[j].1 := by
     unfold atU at ha
     cases hf : l.findIdx? (fun u => decide (mc < u.1)) with
     | none =>
       rw [List.findIdx?_eq_none_iff] at hf
       simpa using hf l[j] (List.getElem_mem hj3)
     | some b =>
       rw [hf] at ha
       simp at ha
       rw [List.findIdx?_eq_some_iff_getElem] at hf
       obtain ⟨_, _, hb⟩ := hf
       simpa using hb j (by omega)
    omega
   have hhi : ∀ u ∈ l.drop a, mc < u.1 := fun u hu => by
    unfold atU at ha
    cases hf : l.findIdx? (fun u => decide (mc < u.1)) with
    | none => rw [hf] at ha; simp at ha; subst ha; simp at hu
    | some b =>
      rw [hf] at ha
      simp at ha
      subst ha
      rw [List.findIdx?_eq_some_iff_getElem] at hf
      obtain ⟨hb, hp, _⟩ := hf
      have hp2 : mc < l[a].1 := by simpa using hp
      have hd := h.1.sublist (List.drop_sublist a l)
      rw [List.drop_eq_getElem_cons hb] at hu hd
      rcases List.mem_cons.1 hu with rfl | h3
      · exact hp2
      · have := (List.pairwise_cons.1 hd).1 u h3
        omega
   have hpw := h.1
   rw [← List.take_append_drop a l] at hpw
   obtain ⟨q1, q2, q3⟩ := List.pairwise_append.1 hpw
   refine ⟨List.pairwise_append.2 ⟨q1, List.pairwise_cons.2 ⟨fun u hu => hhi u hu, q2⟩, fun x hx y hy => ?_⟩, fun u hu => ?_⟩
   · rcases List.mem_cons.1 hy with rfl | h3
     · exact hlo x hx
     · exact q3 x hx y h3
   · rcases List.mem_append.1 hu with h3 | h3
     · exact h.2 u (List.mem_of_mem_take h3)
     · rcases List.mem_cons.1 h3 with rfl | h4
       · exact ⟨h1, h2⟩
       · exact h.2 u (List.mem_of_mem_drop h4)
theorem SortP.units {n : Int} {p : PlaceM} (h : SortP n p) (item : Int) : SortU n (unitsP p item) := by
 unfold unitsP
 split
 · rw [List.getD_eq_getElem?_getD]
   cases hx : p[(item - 1).toNat]? with
   | none => exact SortU.nil_ n
   | some l => exact h l (List.mem_of_getElem? hx)
 · exact SortU.nil_ n
theorem SortP.withP {n : Int} {p : PlaceM} (h : SortP n p) (item : Int) {l : List UnitM} (hl : SortU n l) : SortP n (withP p item l) := by
 unfold Go.Proofs.YtaepcjklimigmaaGreatDoor.withP
 split
 · intro x hx
   rcases List.mem_or_eq_of_mem_set hx with h3 | h3
   · exact h x h3
   · rw [h3]; exact hl
 · exact h
theorem SortP.drop {n : Int} {p : PlaceM} (h : SortP n p) (item mc : Int) : SortP n (dropP p item mc) := h.withP item ((h.units item).drop mc)
theorem SortP.put {n : Int} {p : PlaceM} (h : SortP n p) (item st : Int) {mc : Int} (h1 : 1 ≤ mc) (h2 : mc ≤ n) : SortP n (putP p item mc st) := h.withP item ((h.units item).put st h1 h2)
theorem sort_dropAll {n : Int} {p : PlaceM} (h : SortP n p) (item : Int) : ∀ k, SortP n (dropAll p item k)
 | 0 => h
 | k + 1 => by rw [← dropAll_succ]; exact (sort_dropAll h item k).drop item _
theorem sort_putOlds {m : Mod} (item : Int) : ∀ (l : List Int) {p : PlaceM}, SortP m.mT.length p → SortP m.mT.length (l.foldl (putOld m item) p)
 | [], _, h => h
 | x :: l, p, h => by
   refine sort_putOlds item l ?_
   unfold putOld
   split
   · rename_i hx
     simp only [exI, Bool.and_eq_true, decide_eq_true_eq] at hx
     exact h.put item 0 hx.1 hx.2
   · exact h
theorem SortP.step {m : Mod} {p : PlaceM} (h : SortP m.mT.length p) (e : EvM) : SortP m.mT.length (stepP m p e) := by
 unfold stepP
 split
 · rename_i hc
   unfold afterP
   split
   · exact sort_putOlds e.group _ (sort_dropAll h e.group _)
   · rename_i hk
     have hm : 1 ≤ e.mach ∧ e.mach ≤ m.mT.length := by
      by_cases h3 : e.kind = 3
      · rw [countsB_3 h3, Bool.and_eq_true] at hc
        simpa [exI] using hc.2
      · rw [countsB_0 hk h3] at hc; cases hc
     split
     · exact h.drop _ _
     · split
       · exact h.put _ 2 hm.1 hm.2
       · exact h.put _ 0 hm.1 hm.2
 · exact h
theorem inc_sort {n : Int} {l : List Int} (h : incB n l = true) : l.Pairwise (· < ·) ∧ ∀ k ∈ l, 1 ≤ k ∧ k ≤ n := by
 unfold incB at h
 rw [Bool.and_eq_true, decide_eq_true_eq, decide_eq_true_eq] at h
 obtain ⟨_, h⟩ := h
 have step : ∀ i (hi : i + 1 < l.length), l[i] < l[i + 1] := fun i hi => by
  have := (h (i + 1) hi).2 (by omega)
  rw [List.getD_eq_getElem?_getD, Nat.add_sub_cancel, List.getElem?_eq_getElem (by omega)] at this
  simpa using this
 refine ⟨?_, fun k hk => ?_⟩
 · rw [List.pairwise_iff_getElem]
   intro a b ha hb hab
   obtain ⟨d, rfl⟩ : ∃ d, b = a + 1 + d := ⟨b - a - 1, by omega⟩
   clear hab
   induction d with
   | zero => exact step a hb
   | succ d ih =>
     have h1 := ih (by omega)
     have h2 := step (a + 1 + d) (by omega)
     have h3 : a + 1 + (d + 1) = a + 1 + d + 1 := rfl
     simp only [h3]
     omega
 · obtain ⟨i, hi, rfl⟩ := List.getElem_of_mem hk
   have := (h i hi).1
   simpa [exI] using this
theorem SortP.init {m : Mod} (hv : validM m = true) : SortP m.mT.length (initP m) := fun l hl => by
 unfold initP at hl
 obtain ⟨x, hx, rfl⟩ := List.mem_map.1 hl
 have hi : itemOk m x = true := by
  simp only [validM, Bool.and_eq_true, List.all_eq_true] at hv
  exact hv.1.1.2 x hx
 unfold itemOk at hi
 simp only [Bool.and_eq_true] at hi
 obtain ⟨h1, h2⟩ := inc_sort hi.1.1.1.1
 refine ⟨List.pairwise_map.2 h1, fun u hu => ?_⟩
 obtain ⟨k, hk, rfl⟩ := List.mem_map.1 hu
 exact h2 k hk
theorem sort_placeAt {m : Mod} (hv : validM m = true) (l : List EvM) : ∀ k, k ≤ l.length → SortP m.mT.length (placeAt m l k)
 | 0, _ => SortP.init hv
 | k + 1, hk => by
   rw [placeAt_succ m l (by omega)]
   exact (sort_placeAt hv l k (by omega)).step _
theorem flat_congr {α β : Type} {f g : α → List β} : ∀ {l : List α}, (∀ x ∈ l, f x = g x) → l.flatMap f = l.flatMap g
 | [], _ => rfl
 | x :: l, h => by
   rw [List.flatMap_cons, List.flatMap_cons, h x (by simp), flat_congr fun y hy => h y (by simp [hy])]
theorem look_all {β : Type} (g : UnitM → List β) : ∀ (n s : Nat) (l : List UnitM), l.Pairwise (fun a b => a.1 < b.1) → (∀ u ∈ l, (s : Int) < u.1 ∧ u.1 ≤ (s : Int) + n) →
    (List.range' s n).flatMap (fun k : Nat => match l.find? (fun u => decide (u.1 = (k : Int) + 1)) with | some u => g u | none => []) = l.flatMap g
 | 0, s, l, _, hr => by
   match l, hr with
   | [], _ => rfl
   | u :: l, hr => have := hr u (by simp); omega
 | n + 1, s, l, hp, hr => by
   rw [List.range'_succ, List.flatMap_cons]
   match l, hp, hr with
   | [], _, _ => simp
   | u :: t, hp, hr =>
     have hu := hr u (by simp)
     obtain ⟨h1, h2⟩ := List.pairwise_cons.1 hp
     by_cases e : u.1 = (s : Int) + 1
     · rw [List.find?_cons_of_pos (by simpa using e)]
       rw [List.flatMap_cons, ← look_all g n (s + 1) t h2 (fun v hv => by have := h1 v hv; have := hr v (by simp [hv]); omega)]
       congr 1
       refine flat_congr fun k hk => ?_
       have hk2 := List.mem_range'_1.1 hk
       rw [List.find?_cons_of_neg (by simp; omega)]
     · have hno : (u :: t).find? (fun u => decide (u.1 = (s : Int) + 1)) = none := by
         rw [List.find?_eq_none]
         intro v hv
         rcases List.mem_cons.1 hv with rfl | hv
         · simpa using e
         · have := h1 v hv; simp; omega
       rw [hno]
       show [] ++ _ = _
       rw [List.nil_append]
       exact look_all g n (s + 1) (u :: t) hp (fun v hv => by
        have := hr v hv
        rcases List.mem_cons.1 hv with rfl | hv
        · omega
        · have := h1 v hv; omega)
def darkU (m : Mod) (i : Nat) (u : UnitM) : List (Int × Int) := if domI m 4 u.1 = m.dT then [((i : Int) + 1, if u.2 = 2 then 2 else 0)] else []
def darkRow (m : Mod) (p : PlaceM) (i : Nat) : List (Int × Int) := (unitsP p ((i : Int) + 1)).flatMap (darkU m i)
def darkTo (m : Mod) (p : PlaceM) (i : Nat) : List (Int × Int) := (List.range i).flatMap (darkRow m p)
def darkM (m : Mod) (l : List EvM) : List (Int × Int) := if darkI l < 0 then [] else darkTo m (placeAt m l (darkI l).toNat) m.iT.length
theorem darkTo_succ (m : Mod) (p : PlaceM) (i : Nat) : darkTo m p (i + 1) = darkTo m p i ++ darkRow m p i := by simp [darkTo, List.range_succ]
def lookU (l : List UnitM) (k : Nat) : Option UnitM := l.find? (fun u => decide (u.1 = (k : Int) + 1))
def cellD (m : Mod) (p : PlaceM) (i k : Nat) : List (Int × Int) := match lookU (unitsP p ((i : Int) + 1)) k with | some u => darkU m i u | none => []
def darkK (m : Mod) (p : PlaceM) (i k : Nat) : List (Int × Int) := darkTo m p i ++ (List.range k).flatMap (cellD m p i)
theorem darkK_succ (m : Mod) (p : PlaceM) (i k : Nat) : darkK m p i (k + 1) = darkK m p i k ++ cellD m p i k := by simp [darkK, List.range_succ]
theorem darkK_zero (m : Mod) (p : PlaceM) (i : Nat) : darkK m p i 0 = darkTo m p i := by simp [darkK]
theorem darkK_all {m : Mod} {p : PlaceM} (h : SortP m.mT.length p) (i : Nat) : darkK m p i m.mT.length = darkTo m p (i + 1) := by
 rw [darkK, darkTo_succ, darkRow, List.range_eq_range']
 have hs := h.units ((i : Int) + 1)
 have := look_all (darkU m i) m.mT.length 0 _ hs.1 (fun u hu => by have := hs.2 u hu; omega)
 rw [← this]
 rfl
theorem darkU_len (m : Mod) (i : Nat) (u : UnitM) : (darkU m i u).length ≤ 1 := by unfold darkU; split <;> simp
theorem flat_len {α β : Type} {f : α → List β} (h : ∀ x, (f x).length ≤ 1) (l : List α) : (l.flatMap f).length ≤ l.length := by
 induction l with
 | nil => simp
 | cons x l ih => rw [List.flatMap_cons, List.length_append, List.length_cons]; have := h x; omega
theorem darkTo_len {m : Mod} {p : PlaceM} {n : Nat} (h : Room n p) : ∀ i, (darkTo m p i).length ≤ i * n
 | 0 => by simp [darkTo]
 | i + 1 => by
   rw [darkTo_succ, List.length_append, Nat.succ_mul]
   have := darkTo_len (m := m) h i
   have := flat_len (darkU_len m i) (unitsP p ((i : Int) + 1))
   have := h.unitsP ((i : Int) + 1)
   unfold darkRow
   omega
theorem darkK_len {m : Mod} {p : PlaceM} {n : Nat} (h : Room n p) (i k : Nat) : (darkK m p i k).length ≤ i * n + k := by
 rw [darkK, List.length_append]
 have := darkTo_len (m := m) h i
 have h2 := flat_len (f := cellD m p i) (fun x => by unfold cellD; split; exact darkU_len _ _ _; simp) (List.range k)
 rw [List.length_range] at h2
 omega
end Go.Proofs.YtaepcjklimigmaaGreatDoor
