/- The reference's domains: exodusref14.Domains, Domain; exodusref21.Hits. For any model. Conditions: lengths that fit memory. -/
import Derived.Test.YtpggamapmgpjcaaGreatDoorK03
import Derived.Test.YtpggamapmgpjcaaGreatDoorK04

namespace Go.Proofs.YtpggamapmgpjcaaGreatDoor
open Go Go.RowKit Go.Proofs

/-- an answer, and old memory as it was -/
def AnsB (w : World) (v : Value) (e : Ending) (w' : World) : Prop := e = .returned v ∧ Below w.heap.size w w'
set_option maxHeartbeats 1000000 in
theorem domains_ref (h : MH) (m : Mod) (by_ : Int) (w : World) : Calls Tryz.prog 185 #[.agg #[.slice h.s m.sites.length h.sc, .slice h.f m.feeds.length h.fc, .slice h.r m.racks.length h.rc, .slice h.m m.machs.length h.mc, .slice h.l m.links.length h.lc, .slice h.i m.items.length h.ic, .int .i64 m.dark, .int .i64 m.slots, .int .i64 m.reserve, .int .i64 m.failures, .slice h.u m.rules.length h.uc], .int .i64 by_] w (AnsB w (.int .i64 (domsI m by_))) := by
  have HB := hide ((Below.refl w.heap.size w).alloc (Nat.le_refl _) (.cells #[.slice h.s m.sites.length h.sc, .slice h.f m.feeds.length h.fc, .slice h.r m.racks.length h.rc, .slice h.m m.machs.length h.mc, .slice h.l m.links.length h.lc, .slice h.i m.items.length h.ic, .int .i64 m.dark, .int .i64 m.slots, .int .i64 m.reserve, .int .i64 m.failures, .slice h.u m.rules.length h.uc] 29))
  have hB : ∀ b : Bool, b = false ∨ b = true := fun b => by cases b <;> simp
  rcases hB (by_ == 1) with e1 | e1
  · rcases hB (by_ == 2) with e2 | e2
    · rcases hB (by_ == 3) with e3 | e3
      · rcases hB (by_ == 4) with e4 | e4
        · have HV := hide (show domsI m by_ = 0 by simp at e1 e2 e3 e4; simp [domsI, e1, e2, e3, e4])
          go_enter Tryz.func185, Tryz.ntmps185
          go_wp2_with fail
          go_ret
          exact ⟨ret_congr (by rw [HV.out]; rfl), HB.out⟩
        · have HV := hide (show domsI m by_ = m.sites.length by simp at e4; subst e4; simp [domsI])
          go_enter Tryz.func185, Tryz.ntmps185
          go_wp2_with fail
          go_ret
          exact ⟨ret_congr (by rw [HV.out]; rfl), HB.out⟩
      · have HV := hide (show domsI m by_ = m.feeds.length by simp at e3; subst e3; simp [domsI])
        go_enter Tryz.func185, Tryz.ntmps185
        go_wp2_with fail
        go_ret
        exact ⟨ret_congr (by rw [HV.out]; rfl), HB.out⟩
    · have HV := hide (show domsI m by_ = m.racks.length by simp at e2; subst e2; simp [domsI])
      go_enter Tryz.func185, Tryz.ntmps185
      go_wp2_with fail
      go_ret
      exact ⟨ret_congr (by rw [HV.out]; rfl), HB.out⟩
  · have HV := hide (show domsI m by_ = m.machs.length by simp at e1; subst e1; simp [domsI])
    go_enter Tryz.func185, Tryz.ntmps185
    go_wp2_with fail
    go_ret
    exact ⟨ret_congr (by rw [HV.out]; rfl), HB.out⟩
set_option maxRecDepth 100000 in
set_option maxHeartbeats 1000000 in
theorem domR_nomach (h : MH) (m : Mod) (by_ mc : Int) (w : World) (_hl : m.machs.length ≤ 9223372036854775807) (hx : exI mc m.machs.length = false) :
    Calls Tryz.prog 169 #[.agg #[.slice h.s m.sites.length h.sc, .slice h.f m.feeds.length h.fc, .slice h.r m.racks.length h.rc, .slice h.m m.machs.length h.mc, .slice h.l m.links.length h.lc, .slice h.i m.items.length h.ic, .int .i64 m.dark, .int .i64 m.slots, .int .i64 m.reserve, .int .i64 m.failures, .slice h.u m.rules.length h.uc], .int .i64 by_, .int .i64 mc] w (AnsB w (.int .i64 0)) := by
  have HB := hide ((Below.refl w.heap.size w).alloc (Nat.le_refl _) (.cells #[.slice h.s m.sites.length h.sc, .slice h.f m.feeds.length h.fc, .slice h.r m.racks.length h.rc, .slice h.m m.machs.length h.mc, .slice h.l m.links.length h.lc, .slice h.i m.items.length h.ic, .int .i64 m.dark, .int .i64 m.slots, .int .i64 m.reserve, .int .i64 m.failures, .slice h.u m.rules.length h.uc] 29))
  have HX := hide hx
  clear hx
  go_enter Tryz.func169, Tryz.ntmps169
  go_wp2_with (go_at_call 108; refine (exists_ref _ _ _).mono ?_; rintro e w2 ⟨rfl, rfl⟩; rw [HX.out])
  go_ret
  exact ⟨rfl, HB.out⟩
set_option maxRecDepth 100000 in
set_option maxHeartbeats 1000000 in
theorem domR_1f (h : MH) (m : Mod) (mc : Int) (w : World) (_hl : m.machs.length ≤ 9223372036854775807) (hx : exI mc m.machs.length = true) (hq : exI mc (domsI m 1) = false) :
    Calls Tryz.prog 169 #[.agg #[.slice h.s m.sites.length h.sc, .slice h.f m.feeds.length h.fc, .slice h.r m.racks.length h.rc, .slice h.m m.machs.length h.mc, .slice h.l m.links.length h.lc, .slice h.i m.items.length h.ic, .int .i64 m.dark, .int .i64 m.slots, .int .i64 m.reserve, .int .i64 m.failures, .slice h.u m.rules.length h.uc], .int .i64 1, .int .i64 mc] w (AnsB w (.int .i64 0)) := by
  have HB := hide ((Below.refl w.heap.size w).alloc (Nat.le_refl _) (.cells #[.slice h.s m.sites.length h.sc, .slice h.f m.feeds.length h.fc, .slice h.r m.racks.length h.rc, .slice h.m m.machs.length h.mc, .slice h.l m.links.length h.lc, .slice h.i m.items.length h.ic, .int .i64 m.dark, .int .i64 m.slots, .int .i64 m.reserve, .int .i64 m.failures, .slice h.u m.rules.length h.uc] 29))
  have HDS := hide (domains_ref h m 1 (w.alloc (.cells #[.slice h.s m.sites.length h.sc, .slice h.f m.feeds.length h.fc, .slice h.r m.racks.length h.rc, .slice h.m m.machs.length h.mc, .slice h.l m.links.length h.lc, .slice h.i m.items.length h.ic, .int .i64 m.dark, .int .i64 m.slots, .int .i64 m.reserve, .int .i64 m.failures, .slice h.u m.rules.length h.uc] 29)))
  have HX := hide hx
  have HE := hide hq
  have HR := hide True.intro
  clear hx hq
  go_enter Tryz.func169, Tryz.ntmps169
  go_wp2_with (first
    | (go_at_call 108; refine (exists_ref _ _ _).mono ?_; rintro e w2 ⟨rfl, rfl⟩; first | rw [HX.out] | rw [HE.out])
    | (go_at_call 185; refine HDS.out.mono ?_; rintro e w3 ⟨rfl, hb3⟩))
  go_ret
  exact ⟨rfl, HB.out.trans (hb3.mono HB.out.size)⟩
set_option maxRecDepth 100000 in
set_option maxHeartbeats 1000000 in
theorem domR_1t (h : MH) (m : Mod) (mc : Int) (w : World) (_hl : m.machs.length ≤ 9223372036854775807) (hx : exI mc m.machs.length = true) (hq : exI mc (domsI m 1) = true) :
    Calls Tryz.prog 169 #[.agg #[.slice h.s m.sites.length h.sc, .slice h.f m.feeds.length h.fc, .slice h.r m.racks.length h.rc, .slice h.m m.machs.length h.mc, .slice h.l m.links.length h.lc, .slice h.i m.items.length h.ic, .int .i64 m.dark, .int .i64 m.slots, .int .i64 m.reserve, .int .i64 m.failures, .slice h.u m.rules.length h.uc], .int .i64 1, .int .i64 mc] w (AnsB w (.int .i64 mc)) := by
  have HB := hide ((Below.refl w.heap.size w).alloc (Nat.le_refl _) (.cells #[.slice h.s m.sites.length h.sc, .slice h.f m.feeds.length h.fc, .slice h.r m.racks.length h.rc, .slice h.m m.machs.length h.mc, .slice h.l m.links.length h.lc, .slice h.i m.items.length h.ic, .int .i64 m.dark, .int .i64 m.slots, .int .i64 m.reserve, .int .i64 m.failures, .slice h.u m.rules.length h.uc] 29))
  have HDS := hide (domains_ref h m 1 (w.alloc (.cells #[.slice h.s m.sites.length h.sc, .slice h.f m.feeds.length h.fc, .slice h.r m.racks.length h.rc, .slice h.m m.machs.length h.mc, .slice h.l m.links.length h.lc, .slice h.i m.items.length h.ic, .int .i64 m.dark, .int .i64 m.slots, .int .i64 m.reserve, .int .i64 m.failures, .slice h.u m.rules.length h.uc] 29)))
  have HX := hide hx
  have HE := hide hq
  have HR := hide True.intro
  clear hx hq
  go_enter Tryz.func169, Tryz.ntmps169
  go_wp2_with (first
    | (go_at_call 108; refine (exists_ref _ _ _).mono ?_; rintro e w2 ⟨rfl, rfl⟩; first | rw [HX.out] | rw [HE.out])
    | (go_at_call 185; refine HDS.out.mono ?_; rintro e w3 ⟨rfl, hb3⟩))
  go_ret
  exact ⟨rfl, HB.out.trans (hb3.mono HB.out.size)⟩
set_option maxRecDepth 100000 in
set_option maxHeartbeats 1000000 in
theorem domR_norack (h : MH) (m : Mod) (by_ : Int) (a : Nat) (rk : Int) (b off : Nat) (w : World) (hA : h.m = some ⟨b, off, none⟩) (hb : b < w.heap.size) (x1 : w.cell? ⟨b, off + a * 3 + 1, none⟩ = some (.int .i64 rk)) (haI : (a : Int) < (m.machs.length : Int)) (hl : m.machs.length ≤ 9223372036854775807) (_hl2 : m.racks.length ≤ 9223372036854775807) (g1 : (by_ == 1) = false) (hx : exI ((a : Int) + 1) m.machs.length = true) (hr : exI rk m.racks.length = false) :
    Calls Tryz.prog 169 #[.agg #[.slice h.s m.sites.length h.sc, .slice h.f m.feeds.length h.fc, .slice h.r m.racks.length h.rc, .slice h.m m.machs.length h.mc, .slice h.l m.links.length h.lc, .slice h.i m.items.length h.ic, .int .i64 m.dark, .int .i64 m.slots, .int .i64 m.reserve, .int .i64 m.failures, .slice h.u m.rules.length h.uc], .int .i64 by_, .int .i64 ((a : Int) + 1)] w (AnsB w (.int .i64 0)) := by
  have hb0 := (Below.refl w.heap.size w).alloc (Nat.le_refl _) (.cells #[.slice h.s m.sites.length h.sc, .slice h.f m.feeds.length h.fc, .slice h.r m.racks.length h.rc, .slice h.m m.machs.length h.mc, .slice h.l m.links.length h.lc, .slice h.i m.items.length h.ic, .int .i64 m.dark, .int .i64 m.slots, .int .i64 m.reserve, .int .i64 m.failures, .slice h.u m.rules.length h.uc] 29)
  have y1 := (hb0.cell (p := ⟨b, off + a * 3 + 1, none⟩) hb).trans x1
  have bl := Nat.lt_of_lt_of_le hb hb0.size
  have HB := hide hb0
  have HX := hide hx
  have HR := hide hr
  have ha0 : (0 : Int) ≤ (a : Int) := by omega
  rw [hA] at HB y1 bl ⊢
  clear hb0 hx hr x1 hb hA
  go_enter Tryz.func169, Tryz.ntmps169
  go_wp2_with (go_at_call 108; refine (exists_ref _ _ _).mono ?_; rintro e w2 ⟨rfl, rfl⟩; first | rw [HX.out] | rw [HR.out])
  go_ret
  exact ⟨rfl, HB.out⟩
set_option maxRecDepth 100000 in
set_option maxHeartbeats 1000000 in
theorem domR_3f (h : MH) (m : Mod) (a q : Nat) (b off b2 off2 : Nat) (r1 r2 : Int) (w : World) (hA : h.m = some ⟨b, off, none⟩) (hb : b < w.heap.size) (x1 : w.cell? ⟨b, off + a * 3 + 1, none⟩ = some (.int .i64 ((q : Int) + 1))) (hA2 : h.r = some ⟨b2, off2, none⟩) (hb2 : b2 < w.heap.size) (x2 : w.cell? ⟨b2, off2 + q * 3 + 1, none⟩ = some (.int .i64 r1)) (x3 : w.cell? ⟨b2, off2 + q * 3 + 2, none⟩ = some (.int .i64 r2)) (haI : (a : Int) < (m.machs.length : Int)) (hqI : (q : Int) < (m.racks.length : Int)) (hl : m.machs.length ≤ 9223372036854775807) (hl2 : m.racks.length ≤ 9223372036854775807) (hx : exI ((a : Int) + 1) m.machs.length = true) (hr : exI ((q : Int) + 1) m.racks.length = true) (hq : exI r2 (domsI m 3) = false) :
    Calls Tryz.prog 169 #[.agg #[.slice h.s m.sites.length h.sc, .slice h.f m.feeds.length h.fc, .slice h.r m.racks.length h.rc, .slice h.m m.machs.length h.mc, .slice h.l m.links.length h.lc, .slice h.i m.items.length h.ic, .int .i64 m.dark, .int .i64 m.slots, .int .i64 m.reserve, .int .i64 m.failures, .slice h.u m.rules.length h.uc], .int .i64 3, .int .i64 ((a : Int) + 1)] w (AnsB w (.int .i64 0)) := by
  have hb0 := (Below.refl w.heap.size w).alloc (Nat.le_refl _) (.cells #[.slice h.s m.sites.length h.sc, .slice h.f m.feeds.length h.fc, .slice h.r m.racks.length h.rc, .slice h.m m.machs.length h.mc, .slice h.l m.links.length h.lc, .slice h.i m.items.length h.ic, .int .i64 m.dark, .int .i64 m.slots, .int .i64 m.reserve, .int .i64 m.failures, .slice h.u m.rules.length h.uc] 29)
  have y1 := (hb0.cell (p := ⟨b, off + a * 3 + 1, none⟩) hb).trans x1
  have y2 := (hb0.cell (p := ⟨b2, off2 + q * 3 + 1, none⟩) hb2).trans x2
  have y3 := (hb0.cell (p := ⟨b2, off2 + q * 3 + 2, none⟩) hb2).trans x3
  have bl := Nat.lt_of_lt_of_le hb hb0.size
  have bl2 := Nat.lt_of_lt_of_le hb2 hb0.size
  have HB := hide hb0
  have HX := hide hx
  have HR := hide hr
  have HE := hide hq
  have HDS := hide (domains_ref h m 3 (w.alloc (.cells #[.slice h.s m.sites.length h.sc, .slice h.f m.feeds.length h.fc, .slice h.r m.racks.length h.rc, .slice h.m m.machs.length h.mc, .slice h.l m.links.length h.lc, .slice h.i m.items.length h.ic, .int .i64 m.dark, .int .i64 m.slots, .int .i64 m.reserve, .int .i64 m.failures, .slice h.u m.rules.length h.uc] 29)))
  rw [hA, hA2] at HDS HB y1 y2 y3 bl bl2 ⊢
  clear hb0 hx hr hq x1 x2 x3 hb hb2 hA hA2
  go_enter Tryz.func169, Tryz.ntmps169
  go_wp2_with (first
    | (go_at_call 108; refine (exists_ref _ _ _).mono ?_; rintro e w2 ⟨rfl, rfl⟩; first | rw [HX.out] | rw [HR.out] | rw [HE.out])
    | (go_at_call 185; refine HDS.out.mono ?_; rintro e w3 ⟨rfl, hb3⟩))
  go_ret
  exact ⟨rfl, HB.out.trans (hb3.mono HB.out.size)⟩
set_option maxRecDepth 100000 in
set_option maxHeartbeats 1000000 in
theorem domR_3t (h : MH) (m : Mod) (a q : Nat) (b off b2 off2 : Nat) (r1 r2 : Int) (w : World) (hA : h.m = some ⟨b, off, none⟩) (hb : b < w.heap.size) (x1 : w.cell? ⟨b, off + a * 3 + 1, none⟩ = some (.int .i64 ((q : Int) + 1))) (hA2 : h.r = some ⟨b2, off2, none⟩) (hb2 : b2 < w.heap.size) (x2 : w.cell? ⟨b2, off2 + q * 3 + 1, none⟩ = some (.int .i64 r1)) (x3 : w.cell? ⟨b2, off2 + q * 3 + 2, none⟩ = some (.int .i64 r2)) (haI : (a : Int) < (m.machs.length : Int)) (hqI : (q : Int) < (m.racks.length : Int)) (hl : m.machs.length ≤ 9223372036854775807) (hl2 : m.racks.length ≤ 9223372036854775807) (hx : exI ((a : Int) + 1) m.machs.length = true) (hr : exI ((q : Int) + 1) m.racks.length = true) (hq : exI r2 (domsI m 3) = true) :
    Calls Tryz.prog 169 #[.agg #[.slice h.s m.sites.length h.sc, .slice h.f m.feeds.length h.fc, .slice h.r m.racks.length h.rc, .slice h.m m.machs.length h.mc, .slice h.l m.links.length h.lc, .slice h.i m.items.length h.ic, .int .i64 m.dark, .int .i64 m.slots, .int .i64 m.reserve, .int .i64 m.failures, .slice h.u m.rules.length h.uc], .int .i64 3, .int .i64 ((a : Int) + 1)] w (AnsB w (.int .i64 r2)) := by
  have hb0 := (Below.refl w.heap.size w).alloc (Nat.le_refl _) (.cells #[.slice h.s m.sites.length h.sc, .slice h.f m.feeds.length h.fc, .slice h.r m.racks.length h.rc, .slice h.m m.machs.length h.mc, .slice h.l m.links.length h.lc, .slice h.i m.items.length h.ic, .int .i64 m.dark, .int .i64 m.slots, .int .i64 m.reserve, .int .i64 m.failures, .slice h.u m.rules.length h.uc] 29)
  have y1 := (hb0.cell (p := ⟨b, off + a * 3 + 1, none⟩) hb).trans x1
  have y2 := (hb0.cell (p := ⟨b2, off2 + q * 3 + 1, none⟩) hb2).trans x2
  have y3 := (hb0.cell (p := ⟨b2, off2 + q * 3 + 2, none⟩) hb2).trans x3
  have bl := Nat.lt_of_lt_of_le hb hb0.size
  have bl2 := Nat.lt_of_lt_of_le hb2 hb0.size
  have HB := hide hb0
  have HX := hide hx
  have HR := hide hr
  have HE := hide hq
  have HDS := hide (domains_ref h m 3 (w.alloc (.cells #[.slice h.s m.sites.length h.sc, .slice h.f m.feeds.length h.fc, .slice h.r m.racks.length h.rc, .slice h.m m.machs.length h.mc, .slice h.l m.links.length h.lc, .slice h.i m.items.length h.ic, .int .i64 m.dark, .int .i64 m.slots, .int .i64 m.reserve, .int .i64 m.failures, .slice h.u m.rules.length h.uc] 29)))
  rw [hA, hA2] at HDS HB y1 y2 y3 bl bl2 ⊢
  clear hb0 hx hr hq x1 x2 x3 hb hb2 hA hA2
  go_enter Tryz.func169, Tryz.ntmps169
  go_wp2_with (first
    | (go_at_call 108; refine (exists_ref _ _ _).mono ?_; rintro e w2 ⟨rfl, rfl⟩; first | rw [HX.out] | rw [HR.out] | rw [HE.out])
    | (go_at_call 185; refine HDS.out.mono ?_; rintro e w3 ⟨rfl, hb3⟩))
  go_ret
  exact ⟨rfl, HB.out.trans (hb3.mono HB.out.size)⟩
set_option maxRecDepth 100000 in
set_option maxHeartbeats 1000000 in
theorem domR_4f (h : MH) (m : Mod) (a q : Nat) (b off b2 off2 : Nat) (r1 r2 : Int) (w : World) (hA : h.m = some ⟨b, off, none⟩) (hb : b < w.heap.size) (x1 : w.cell? ⟨b, off + a * 3 + 1, none⟩ = some (.int .i64 ((q : Int) + 1))) (hA2 : h.r = some ⟨b2, off2, none⟩) (hb2 : b2 < w.heap.size) (x2 : w.cell? ⟨b2, off2 + q * 3 + 1, none⟩ = some (.int .i64 r1)) (x3 : w.cell? ⟨b2, off2 + q * 3 + 2, none⟩ = some (.int .i64 r2)) (haI : (a : Int) < (m.machs.length : Int)) (hqI : (q : Int) < (m.racks.length : Int)) (hl : m.machs.length ≤ 9223372036854775807) (hl2 : m.racks.length ≤ 9223372036854775807) (hx : exI ((a : Int) + 1) m.machs.length = true) (hr : exI ((q : Int) + 1) m.racks.length = true) (hq : exI r1 (domsI m 4) = false) :
    Calls Tryz.prog 169 #[.agg #[.slice h.s m.sites.length h.sc, .slice h.f m.feeds.length h.fc, .slice h.r m.racks.length h.rc, .slice h.m m.machs.length h.mc, .slice h.l m.links.length h.lc, .slice h.i m.items.length h.ic, .int .i64 m.dark, .int .i64 m.slots, .int .i64 m.reserve, .int .i64 m.failures, .slice h.u m.rules.length h.uc], .int .i64 4, .int .i64 ((a : Int) + 1)] w (AnsB w (.int .i64 0)) := by
  have hb0 := (Below.refl w.heap.size w).alloc (Nat.le_refl _) (.cells #[.slice h.s m.sites.length h.sc, .slice h.f m.feeds.length h.fc, .slice h.r m.racks.length h.rc, .slice h.m m.machs.length h.mc, .slice h.l m.links.length h.lc, .slice h.i m.items.length h.ic, .int .i64 m.dark, .int .i64 m.slots, .int .i64 m.reserve, .int .i64 m.failures, .slice h.u m.rules.length h.uc] 29)
  have y1 := (hb0.cell (p := ⟨b, off + a * 3 + 1, none⟩) hb).trans x1
  have y2 := (hb0.cell (p := ⟨b2, off2 + q * 3 + 1, none⟩) hb2).trans x2
  have y3 := (hb0.cell (p := ⟨b2, off2 + q * 3 + 2, none⟩) hb2).trans x3
  have bl := Nat.lt_of_lt_of_le hb hb0.size
  have bl2 := Nat.lt_of_lt_of_le hb2 hb0.size
  have HB := hide hb0
  have HX := hide hx
  have HR := hide hr
  have HE := hide hq
  have HDS := hide (domains_ref h m 4 (w.alloc (.cells #[.slice h.s m.sites.length h.sc, .slice h.f m.feeds.length h.fc, .slice h.r m.racks.length h.rc, .slice h.m m.machs.length h.mc, .slice h.l m.links.length h.lc, .slice h.i m.items.length h.ic, .int .i64 m.dark, .int .i64 m.slots, .int .i64 m.reserve, .int .i64 m.failures, .slice h.u m.rules.length h.uc] 29)))
  rw [hA, hA2] at HDS HB y1 y2 y3 bl bl2 ⊢
  clear hb0 hx hr hq x1 x2 x3 hb hb2 hA hA2
  go_enter Tryz.func169, Tryz.ntmps169
  go_wp2_with (first
    | (go_at_call 108; refine (exists_ref _ _ _).mono ?_; rintro e w2 ⟨rfl, rfl⟩; first | rw [HX.out] | rw [HR.out] | rw [HE.out])
    | (go_at_call 185; refine HDS.out.mono ?_; rintro e w3 ⟨rfl, hb3⟩))
  go_ret
  exact ⟨rfl, HB.out.trans (hb3.mono HB.out.size)⟩
set_option maxRecDepth 100000 in
set_option maxHeartbeats 1000000 in
theorem domR_4t (h : MH) (m : Mod) (a q : Nat) (b off b2 off2 : Nat) (r1 r2 : Int) (w : World) (hA : h.m = some ⟨b, off, none⟩) (hb : b < w.heap.size) (x1 : w.cell? ⟨b, off + a * 3 + 1, none⟩ = some (.int .i64 ((q : Int) + 1))) (hA2 : h.r = some ⟨b2, off2, none⟩) (hb2 : b2 < w.heap.size) (x2 : w.cell? ⟨b2, off2 + q * 3 + 1, none⟩ = some (.int .i64 r1)) (x3 : w.cell? ⟨b2, off2 + q * 3 + 2, none⟩ = some (.int .i64 r2)) (haI : (a : Int) < (m.machs.length : Int)) (hqI : (q : Int) < (m.racks.length : Int)) (hl : m.machs.length ≤ 9223372036854775807) (hl2 : m.racks.length ≤ 9223372036854775807) (hx : exI ((a : Int) + 1) m.machs.length = true) (hr : exI ((q : Int) + 1) m.racks.length = true) (hq : exI r1 (domsI m 4) = true) :
    Calls Tryz.prog 169 #[.agg #[.slice h.s m.sites.length h.sc, .slice h.f m.feeds.length h.fc, .slice h.r m.racks.length h.rc, .slice h.m m.machs.length h.mc, .slice h.l m.links.length h.lc, .slice h.i m.items.length h.ic, .int .i64 m.dark, .int .i64 m.slots, .int .i64 m.reserve, .int .i64 m.failures, .slice h.u m.rules.length h.uc], .int .i64 4, .int .i64 ((a : Int) + 1)] w (AnsB w (.int .i64 r1)) := by
  have hb0 := (Below.refl w.heap.size w).alloc (Nat.le_refl _) (.cells #[.slice h.s m.sites.length h.sc, .slice h.f m.feeds.length h.fc, .slice h.r m.racks.length h.rc, .slice h.m m.machs.length h.mc, .slice h.l m.links.length h.lc, .slice h.i m.items.length h.ic, .int .i64 m.dark, .int .i64 m.slots, .int .i64 m.reserve, .int .i64 m.failures, .slice h.u m.rules.length h.uc] 29)
  have y1 := (hb0.cell (p := ⟨b, off + a * 3 + 1, none⟩) hb).trans x1
  have y2 := (hb0.cell (p := ⟨b2, off2 + q * 3 + 1, none⟩) hb2).trans x2
  have y3 := (hb0.cell (p := ⟨b2, off2 + q * 3 + 2, none⟩) hb2).trans x3
  have bl := Nat.lt_of_lt_of_le hb hb0.size
  have bl2 := Nat.lt_of_lt_of_le hb2 hb0.size
  have HB := hide hb0
  have HX := hide hx
  have HR := hide hr
  have HE := hide hq
  have HDS := hide (domains_ref h m 4 (w.alloc (.cells #[.slice h.s m.sites.length h.sc, .slice h.f m.feeds.length h.fc, .slice h.r m.racks.length h.rc, .slice h.m m.machs.length h.mc, .slice h.l m.links.length h.lc, .slice h.i m.items.length h.ic, .int .i64 m.dark, .int .i64 m.slots, .int .i64 m.reserve, .int .i64 m.failures, .slice h.u m.rules.length h.uc] 29)))
  rw [hA, hA2] at HDS HB y1 y2 y3 bl bl2 ⊢
  clear hb0 hx hr hq x1 x2 x3 hb hb2 hA hA2
  go_enter Tryz.func169, Tryz.ntmps169
  go_wp2_with (first
    | (go_at_call 108; refine (exists_ref _ _ _).mono ?_; rintro e w2 ⟨rfl, rfl⟩; first | rw [HX.out] | rw [HR.out] | rw [HE.out])
    | (go_at_call 185; refine HDS.out.mono ?_; rintro e w3 ⟨rfl, hb3⟩))
  go_ret
  exact ⟨rfl, HB.out.trans (hb3.mono HB.out.size)⟩
set_option maxRecDepth 100000 in
set_option maxHeartbeats 1000000 in
theorem domR_of (h : MH) (m : Mod) (by_ : Int) (a q : Nat) (b off b2 off2 : Nat) (r1 r2 : Int) (w : World) (hA : h.m = some ⟨b, off, none⟩) (hb : b < w.heap.size) (x1 : w.cell? ⟨b, off + a * 3 + 1, none⟩ = some (.int .i64 ((q : Int) + 1))) (hA2 : h.r = some ⟨b2, off2, none⟩) (hb2 : b2 < w.heap.size) (x2 : w.cell? ⟨b2, off2 + q * 3 + 1, none⟩ = some (.int .i64 r1)) (x3 : w.cell? ⟨b2, off2 + q * 3 + 2, none⟩ = some (.int .i64 r2)) (haI : (a : Int) < (m.machs.length : Int)) (_hqI : (q : Int) < (m.racks.length : Int)) (hl : m.machs.length ≤ 9223372036854775807) (_hl2 : m.racks.length ≤ 9223372036854775807) (g1 : (by_ == 1) = false) (g3 : (by_ == 3) = false) (g4 : (by_ == 4) = false) (hx : exI ((a : Int) + 1) m.machs.length = true) (hr : exI ((q : Int) + 1) m.racks.length = true) (hq : exI ((q : Int) + 1) (domsI m by_) = false) :
    Calls Tryz.prog 169 #[.agg #[.slice h.s m.sites.length h.sc, .slice h.f m.feeds.length h.fc, .slice h.r m.racks.length h.rc, .slice h.m m.machs.length h.mc, .slice h.l m.links.length h.lc, .slice h.i m.items.length h.ic, .int .i64 m.dark, .int .i64 m.slots, .int .i64 m.reserve, .int .i64 m.failures, .slice h.u m.rules.length h.uc], .int .i64 by_, .int .i64 ((a : Int) + 1)] w (AnsB w (.int .i64 0)) := by
  have hb0 := (Below.refl w.heap.size w).alloc (Nat.le_refl _) (.cells #[.slice h.s m.sites.length h.sc, .slice h.f m.feeds.length h.fc, .slice h.r m.racks.length h.rc, .slice h.m m.machs.length h.mc, .slice h.l m.links.length h.lc, .slice h.i m.items.length h.ic, .int .i64 m.dark, .int .i64 m.slots, .int .i64 m.reserve, .int .i64 m.failures, .slice h.u m.rules.length h.uc] 29)
  have y1 := (hb0.cell (p := ⟨b, off + a * 3 + 1, none⟩) hb).trans x1
  have y2 := (hb0.cell (p := ⟨b2, off2 + q * 3 + 1, none⟩) hb2).trans x2
  have y3 := (hb0.cell (p := ⟨b2, off2 + q * 3 + 2, none⟩) hb2).trans x3
  have bl := Nat.lt_of_lt_of_le hb hb0.size
  have bl2 := Nat.lt_of_lt_of_le hb2 hb0.size
  have HB := hide hb0
  have HX := hide hx
  have HR := hide hr
  have HE := hide hq
  have HDS := hide (domains_ref h m by_ (w.alloc (.cells #[.slice h.s m.sites.length h.sc, .slice h.f m.feeds.length h.fc, .slice h.r m.racks.length h.rc, .slice h.m m.machs.length h.mc, .slice h.l m.links.length h.lc, .slice h.i m.items.length h.ic, .int .i64 m.dark, .int .i64 m.slots, .int .i64 m.reserve, .int .i64 m.failures, .slice h.u m.rules.length h.uc] 29)))
  rw [hA, hA2] at HDS HB y1 y2 y3 bl bl2 ⊢
  clear hb0 hx hr hq x1 x2 x3 hb hb2 hA hA2
  go_enter Tryz.func169, Tryz.ntmps169
  go_wp2_with (first
    | (go_at_call 108; refine (exists_ref _ _ _).mono ?_; rintro e w2 ⟨rfl, rfl⟩; first | rw [HX.out] | rw [HR.out] | rw [HE.out])
    | (go_at_call 185; refine HDS.out.mono ?_; rintro e w3 ⟨rfl, hb3⟩))
  go_ret
  exact ⟨rfl, HB.out.trans (hb3.mono HB.out.size)⟩
set_option maxRecDepth 100000 in
set_option maxHeartbeats 1000000 in
theorem domR_ot (h : MH) (m : Mod) (by_ : Int) (a q : Nat) (b off b2 off2 : Nat) (r1 r2 : Int) (w : World) (hA : h.m = some ⟨b, off, none⟩) (hb : b < w.heap.size) (x1 : w.cell? ⟨b, off + a * 3 + 1, none⟩ = some (.int .i64 ((q : Int) + 1))) (hA2 : h.r = some ⟨b2, off2, none⟩) (hb2 : b2 < w.heap.size) (x2 : w.cell? ⟨b2, off2 + q * 3 + 1, none⟩ = some (.int .i64 r1)) (x3 : w.cell? ⟨b2, off2 + q * 3 + 2, none⟩ = some (.int .i64 r2)) (haI : (a : Int) < (m.machs.length : Int)) (_hqI : (q : Int) < (m.racks.length : Int)) (hl : m.machs.length ≤ 9223372036854775807) (_hl2 : m.racks.length ≤ 9223372036854775807) (g1 : (by_ == 1) = false) (g3 : (by_ == 3) = false) (g4 : (by_ == 4) = false) (hx : exI ((a : Int) + 1) m.machs.length = true) (hr : exI ((q : Int) + 1) m.racks.length = true) (hq : exI ((q : Int) + 1) (domsI m by_) = true) :
    Calls Tryz.prog 169 #[.agg #[.slice h.s m.sites.length h.sc, .slice h.f m.feeds.length h.fc, .slice h.r m.racks.length h.rc, .slice h.m m.machs.length h.mc, .slice h.l m.links.length h.lc, .slice h.i m.items.length h.ic, .int .i64 m.dark, .int .i64 m.slots, .int .i64 m.reserve, .int .i64 m.failures, .slice h.u m.rules.length h.uc], .int .i64 by_, .int .i64 ((a : Int) + 1)] w (AnsB w (.int .i64 ((q : Int) + 1))) := by
  have hb0 := (Below.refl w.heap.size w).alloc (Nat.le_refl _) (.cells #[.slice h.s m.sites.length h.sc, .slice h.f m.feeds.length h.fc, .slice h.r m.racks.length h.rc, .slice h.m m.machs.length h.mc, .slice h.l m.links.length h.lc, .slice h.i m.items.length h.ic, .int .i64 m.dark, .int .i64 m.slots, .int .i64 m.reserve, .int .i64 m.failures, .slice h.u m.rules.length h.uc] 29)
  have y1 := (hb0.cell (p := ⟨b, off + a * 3 + 1, none⟩) hb).trans x1
  have y2 := (hb0.cell (p := ⟨b2, off2 + q * 3 + 1, none⟩) hb2).trans x2
  have y3 := (hb0.cell (p := ⟨b2, off2 + q * 3 + 2, none⟩) hb2).trans x3
  have bl := Nat.lt_of_lt_of_le hb hb0.size
  have bl2 := Nat.lt_of_lt_of_le hb2 hb0.size
  have HB := hide hb0
  have HX := hide hx
  have HR := hide hr
  have HE := hide hq
  have HDS := hide (domains_ref h m by_ (w.alloc (.cells #[.slice h.s m.sites.length h.sc, .slice h.f m.feeds.length h.fc, .slice h.r m.racks.length h.rc, .slice h.m m.machs.length h.mc, .slice h.l m.links.length h.lc, .slice h.i m.items.length h.ic, .int .i64 m.dark, .int .i64 m.slots, .int .i64 m.reserve, .int .i64 m.failures, .slice h.u m.rules.length h.uc] 29)))
  rw [hA, hA2] at HDS HB y1 y2 y3 bl bl2 ⊢
  clear hb0 hx hr hq x1 x2 x3 hb hb2 hA hA2
  go_enter Tryz.func169, Tryz.ntmps169
  go_wp2_with (first
    | (go_at_call 108; refine (exists_ref _ _ _).mono ?_; rintro e w2 ⟨rfl, rfl⟩; first | rw [HX.out] | rw [HR.out] | rw [HE.out])
    | (go_at_call 185; refine HDS.out.mono ?_; rintro e w3 ⟨rfl, hb3⟩))
  go_ret
  exact ⟨rfl, HB.out.trans (hb3.mono HB.out.size)⟩
/-- the end of Domain: a number is tested against the domains -/
theorem domI_of {m : Mod} {by_ mc n : Int} (hx : exI mc m.machs.length = true) (hn : domN m by_ mc = n) : domI m by_ mc = if exI n (domsI m by_) = true then n else 0 := by
  unfold domI
  rw [hx, hn, Bool.true_and]
theorem domain_ref (h : MH) (m : Mod) (by_ mc : Int) (w : World) (d : MD w w.heap.size h m) : Calls Tryz.prog 169 #[.agg #[.slice h.s m.sites.length h.sc, .slice h.f m.feeds.length h.fc, .slice h.r m.racks.length h.rc, .slice h.m m.machs.length h.mc, .slice h.l m.links.length h.lc, .slice h.i m.items.length h.ic, .int .i64 m.dark, .int .i64 m.slots, .int .i64 m.reserve, .int .i64 m.failures, .slice h.u m.rules.length h.uc], .int .i64 by_, .int .i64 mc] w (AnsB w (.int .i64 (domI m by_ mc))) := by
  have hB : ∀ b : Bool, b = false ∨ b = true := fun b => by cases b <;> simp
  rcases hB (exI mc m.machs.length) with hx | hx
  · rw [show domI m by_ mc = 0 by simp [domI, hx]]
    exact domR_nomach h m by_ mc w d.ml hx
  have hx2 := hx
  simp only [exI, Bool.and_eq_true, decide_eq_true_eq] at hx2
  obtain ⟨a, ha, rfl⟩ : ∃ a : Nat, a < m.machs.length ∧ mc = (a : Int) + 1 := ⟨(mc - 1).toNat, by omega, by omega⟩
  by_cases h1 : by_ = 1
  · subst h1
    rw [domI_of hx (show domN m 1 ((a : Int) + 1) = (a : Int) + 1 by simp [domN])]
    rcases hB (exI ((a : Int) + 1) (domsI m 1)) with hq | hq
    · rw [hq]; exact domR_1f h m _ w d.ml hx hq
    · rw [hq]; exact domR_1t h m _ w d.ml hx hq
  have g1 : (by_ == 1) = false := by simpa using h1
  obtain ⟨b, off, eA, hb, _, x1, _⟩ := d.dM.mach ha
  have hN : domN m by_ ((a : Int) + 1) = if exI m.machs[a].rack m.racks.length then (match m.racks[(m.machs[a].rack - 1).toNat]? with
        | none => 0
        | some r => if by_ = 3 then r.feed else if by_ = 4 then r.site else m.machs[a].rack) else 0 := by
    have : ((a : Int) + 1 - 1).toNat = a := by omega
    simp [domN, h1, ha]
    rfl
  rcases hB (exI m.machs[a].rack m.racks.length) with hr | hr
  · rw [domI_of hx hN, hr]
    simp only [Bool.false_eq_true, ↓reduceIte]
    rw [show (if exI 0 (domsI m by_) = true then (0 : Int) else 0) = 0 by split <;> rfl]
    exact domR_norack h m by_ a _ b off w eA hb x1 (by omega) d.ml d.rl g1 hx hr
  have hr2 := hr
  simp only [exI, Bool.and_eq_true, decide_eq_true_eq] at hr2
  obtain ⟨q, hq, hqe⟩ : ∃ q : Nat, q < m.racks.length ∧ m.machs[a].rack = (q : Int) + 1 := ⟨(m.machs[a].rack - 1).toNat, by omega, by omega⟩
  obtain ⟨b2, off2, eA2, hb2, _, y1, y2⟩ := d.dR.rack hq
  rw [hr, if_pos rfl, hqe, show ((q : Int) + 1 - 1).toNat = q by omega, List.getElem?_eq_getElem hq] at hN
  simp only at hN
  rw [hqe] at x1 hr
  rw [domI_of hx hN]
  by_cases h3 : by_ = 3
  · subst h3
    rw [if_pos rfl]
    rcases hB (exI m.racks[q].feed (domsI m 3)) with hz | hz
    · rw [hz]; exact domR_3f h m a q b off b2 off2 m.racks[q].site m.racks[q].feed w eA hb x1 eA2 hb2 y1 y2.1 (by omega) (by omega) d.ml d.rl hx hr hz
    · rw [hz]; exact domR_3t h m a q b off b2 off2 m.racks[q].site m.racks[q].feed w eA hb x1 eA2 hb2 y1 y2.1 (by omega) (by omega) d.ml d.rl hx hr hz
  rw [if_neg h3]
  have g3 : (by_ == 3) = false := by simpa using h3
  by_cases h4 : by_ = 4
  · subst h4
    rw [if_pos rfl]
    rcases hB (exI m.racks[q].site (domsI m 4)) with hz | hz
    · rw [hz]; exact domR_4f h m a q b off b2 off2 m.racks[q].site m.racks[q].feed w eA hb x1 eA2 hb2 y1 y2.1 (by omega) (by omega) d.ml d.rl hx hr hz
    · rw [hz]; exact domR_4t h m a q b off b2 off2 m.racks[q].site m.racks[q].feed w eA hb x1 eA2 hb2 y1 y2.1 (by omega) (by omega) d.ml d.rl hx hr hz
  rw [if_neg h4]
  have g4 : (by_ == 4) = false := by simpa using h4
  rcases hB (exI ((q : Int) + 1) (domsI m by_)) with hz | hz
  · rw [hz]; exact domR_of h m by_ a q b off b2 off2 m.racks[q].site m.racks[q].feed w eA hb x1 eA2 hb2 y1 y2.1 (by omega) (by omega) d.ml d.rl g1 g3 g4 hx hr hz
  · rw [hz]; exact domR_ot h m by_ a q b off b2 off2 m.racks[q].site m.racks[q].feed w eA hb x1 eA2 hb2 y1 y2.1 (by omega) (by omega) d.ml d.rl g1 g3 g4 hx hr hz
end Go.Proofs.YtpggamapmgpjcaaGreatDoor
