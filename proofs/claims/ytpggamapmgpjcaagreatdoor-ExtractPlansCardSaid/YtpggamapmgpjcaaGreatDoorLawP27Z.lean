/- The walk of exoduslaw27.ExtractPlans: it answers true. Conditions: lengths that fit memory; the table of spaces is laid. -/
import Derived.Test.YtpggamapmgpjcaaGreatDoorK38
import Derived.Test.YtpggamapmgpjcaaGreatDoorK45
import Derived.Test.YtpggamapmgpjcaaGreatDoorK46

namespace Go.Proofs.YtpggamapmgpjcaaGreatDoor
open Go Go.RowKit Go.Proofs

theorem xplan_short (m : Mod) (x : List Int) : (xplanR m x).1.length ≤ 48000 := by
  unfold xplanR
  by_cases hc : (choR m).2 = 0
  · rw [if_neg (by simpa using hc)]
    have h1 := steps_len (choR_ok hc).1
    unfold planA
    split
    · simp
    · split
      · simp
      · have h2 := norm_len (pickM (stepsM m) x)
        have h3 := pickM_len (stepsM m) x
        simp only
        omega
  · rw [if_pos hc]; simp
theorem A27.start (h : MH) (m : Mod) (w : World) (d : MD w w.heap.size h m) : A27 w h m w.heap.size (w.alloc (.cells #[.slice h.s m.sites.length h.sc, .slice h.f m.feeds.length h.fc, .slice h.r m.racks.length h.rc, .slice h.m m.machs.length h.mc, .slice h.l m.links.length h.lc, .slice h.i m.items.length h.ic, .int .i64 m.dark, .int .i64 m.slots, .int .i64 m.reserve, .int .i64 m.failures, .slice h.u m.rules.length h.uc] 29)) :=
  have hb := (Below.refl w.heap.size w).alloc (Nat.le_refl _) (.cells #[.slice h.s m.sites.length h.sc, .slice h.f m.feeds.length h.fc, .slice h.r m.racks.length h.rc, .slice h.m m.machs.length h.mc, .slice h.l m.links.length h.lc, .slice h.i m.items.length h.ic, .int .i64 m.dark, .int .i64 m.slots, .int .i64 m.reserve, .int .i64 m.failures, .slice h.u m.rules.length h.uc] 29)
  ⟨Blk.new w _ _, d.grow hb, hb⟩
set_option maxRecDepth 100000 in
set_option maxHeartbeats 4000000 in
theorem extractPlans_walk (h : MH) (m : Mod) (Ax : Option Addr) (x : List Int) (cx : Nat) (w : World) (d : MD w w.heap.size h m) (k1 : m.racks.length ≤ h.rc) (k2 : m.machs.length ≤ h.mc) (k3 : m.links.length ≤ h.lc) (hx : Ints w w.heap.size Ax x) (ha : Asc w) :
    Calls Tryz.prog 3 #[.agg #[.slice h.s m.sites.length h.sc, .slice h.f m.feeds.length h.fc, .slice h.r m.racks.length h.rc, .slice h.m m.machs.length h.mc, .slice h.l m.links.length h.lc, .slice h.i m.items.length h.ic, .int .i64 m.dark, .int .i64 m.slots, .int .i64 m.reserve, .int .i64 m.failures, .slice h.u m.rules.length h.uc], .slice Ax x.length cx] w (AnsR w (.bool true)) := by
  have HS0 := hide (A27.start h m w d)
  have HAW := hide (fun W (s : A27 w h m w.heap.size W) => awake27 W (ha.below (Nat.le_refl _) s.b))
  have HF := hide (fun W (s : A27 w h m w.heap.size W) => few27_law h m Ax none x.length 0 cx 0 W s.d)
  have hxp : ∀ W, A27 w h m w.heap.size W → _ := fun W s => xplan_prog h m Ax x cx W s.d k1 k2 k3 (ha.below (Nat.le_refl _) s.b) (hx.grow s.b)
  have hrp : ∀ W, A27 w h m w.heap.size W → _ := fun W s => rplan_ref h m Ax x cx W s.d (hx.grow s.b)
  have hsl := xplan_short m x
  obtain ⟨⟨l, q⟩, hlq⟩ : ∃ lq, lq = xplanR m x := ⟨_, rfl⟩
  rw [← hlq] at hxp hrp hsl
  dsimp only at hxp hrp hsl
  have HXP := hide hxp
  have HRP := hide hrp
  have HSL := hide hsl
  clear hxp hrp hsl hlq d k1 k2 k3 hx ha
  go_enter Tryz.func3, Tryz.ntmps3
  go_upto_region 3 with (first
    | (go_at_call 7; (with_reducible refine (HAW.out _ HS0.out).mono ?_); rintro e w1 ⟨rfl, hb1⟩
       have HS1 := hide (HS0.out.grow hb1)
       obtain ⟨a0, a1, a2, a3, a4, a5, a6, a7, a8, a9, a10⟩ := MB.cells HS1.out.mb
       have al := HS1.out.mb.lt
       clear hb1 HS0)
    | (go_at_call 8; (with_reducible refine (HF.out _ HS1.out).mono ?_); rintro e w2 ⟨⟨b, rfl, _⟩, hb2⟩
       have HS2 := hide (HS1.out.grow hb2)
       clear hb2 a0 a1 a2 a3 a4 a5 a6 a7 a8 a9 a10 al
       obtain ⟨a0, a1, a2, a3, a4, a5, a6, a7, a8, a9, a10⟩ := MB.cells HS2.out.mb
       have al := HS2.out.mb.lt
       cases b)
    | (go_at_call 7; (with_reducible refine (HAW.out _ HS2.out).mono ?_); rintro e w3 ⟨rfl, hb3⟩
       have HS3 := hide (HS2.out.grow hb3)
       clear hb3))
  · go_ret
    exact ⟨rfl, HS3.out.b⟩
  · go_upto_region 4 with (go_at_call 9; (with_reducible refine (HXP.out _ HS2.out).mono ?_); rintro e w4 ⟨A4, c4, rfl, hr4, hb4⟩
                           have HS4 := hide (HS2.out.grow hb4)
                           have HR4 := hide hr4
                           clear hr4 hb4)
    have hg4 : Below w4.heap.size w4 (w4.alloc (.cells #[.slice A4 l.length c4] 35)) := (Below.refl _ _).alloc (Nat.le_refl _) _
    have HS5 := hide (HS4.out.grow hg4)
    have HR5 := hide (HR4.out.grow hg4)
    have HB5 := hide (Blk.new w4 35 #[.slice A4 l.length c4])
    obtain ⟨w5, hw5⟩ : ∃ w5, w5 = w4.alloc (.cells #[.slice A4 l.length c4] 35) := ⟨_, rfl⟩
    obtain ⟨bp, hbp⟩ : ∃ bp, bp = w4.heap.size := ⟨_, rfl⟩
    rw [← hw5] at HS5 HR5 HB5 ⊢
    rw [← hbp] at HB5 ⊢
    clear hw5 hbp hg4 HS4 HR4 a0 a1 a2 a3 a4 a5 a6 a7 a8 a9 a10 al
    obtain ⟨a0, a1, a2, a3, a4, a5, a6, a7, a8, a9, a10⟩ := MB.cells HS5.out.mb
    have al := HS5.out.mb.lt
    go_upto_region 5 with (go_at_call 10; (with_reducible refine (HRP.out _ HS5.out).mono ?_); rintro e w6 ⟨A6, c6, rfl, hr6, hb6⟩
                           have HS6 := hide (HS5.out.grow hb6)
                           have HR6 := hide (HR5.out.grow hb6)
                           have HQ6 := hide hr6
                           have HB6 := hide (HB5.out.below hb6 HB5.out.lt)
                           clear hr6 hb6 a0 a1 a2 a3 a4 a5 a6 a7 a8 a9 a10 al)
    have hg6 : Below w6.heap.size w6 (w6.alloc (.cells #[.slice A6 l.length c6] 35)) := (Below.refl _ _).alloc (Nat.le_refl _) _
    have HSA := hide (same24_ref A4 A6 c4 c6 l _ (by have := HSL.out; omega) (HR6.out.grow hg6) (HQ6.out.grow hg6))
    have p0 := HB6.out.cell 0
    have pl := HB6.out.lt
    simp at p0
    have HG6 := hide hg6
    clear hg6
    go_wp2_with (go_at_call 11; (with_reducible refine HSA.out.mono ?_); rintro e w7 ⟨rfl, hb7⟩
                 have HB7 := hide (HG6.out.trans (hb7.mono (by simp)))
                 clear hb7 p0 pl)
    go_ret
    exact ⟨by simp, HS6.out.b.trans (HB7.out.mono HS6.out.b.size)⟩
end Go.Proofs.YtpggamapmgpjcaaGreatDoor
