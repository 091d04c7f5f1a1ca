/- The walk of exoduslaw27.ExtractPlans: it answers true. Conditions: lengths that fit memory; the table of spaces is laid. The walk of exoduslaw27.ExtractPoints: it answers true. Conditions: lengths that fit memory; the table of spaces is laid. The walk of exoduslaw27.ExtractReturns: it answers true. Conditions: lengths that fit memory; the table of spaces is laid. The walks of plan.end, and of plan.Valid at a plan that is not valid. Conditions: lengths that fit memory; the table of spaces. The walk of exoduslaw27.ExtractInverse: it answers true. Conditions: lengths that fit memory; the table of spaces is laid. -/
import Derived.Test.YtpggamapmgpjcaaGreatDoorK38
import Derived.Test.YtpggamapmgpjcaaGreatDoorK45
import Derived.Test.YtpggamapmgpjcaaGreatDoorK46
import Derived.Test.YtpggamapmgpjcaaGreatDoorK29
import Derived.Test.YtpggamapmgpjcaaGreatDoorK35
import Derived.Test.YtpggamapmgpjcaaGreatDoorK43
import Derived.Test.YtpggamapmgpjcaaGreatDoorK32

namespace Go.Proofs.YtpggamapmgpjcaaGreatDoor
open Go Go.RowKit Go.Proofs

theorem xplan_short (m : Mod) (x : List Int) : (xplanR m x).1.length ≤ 48000 := by
  unfold xplanR
  by_cases hc : (choR m).2 = 0
  · rw [if_neg (by simpa using hc)]
    have h1 := steps_len (choR_ok hc).1
    unfold planA
    split
    · simp
    · split
      · simp
      · have h2 := norm_len (pickM (stepsM m) x)
        have h3 := pickM_len (stepsM m) x
        simp only
        omega
  · rw [if_pos hc]; simp
theorem A27.start (h : MH) (m : Mod) (w : World) (d : MD w w.heap.size h m) : A27 w h m w.heap.size (w.alloc (.cells #[.slice h.s m.sites.length h.sc, .slice h.f m.feeds.length h.fc, .slice h.r m.racks.length h.rc, .slice h.m m.machs.length h.mc, .slice h.l m.links.length h.lc, .slice h.i m.items.length h.ic, .int .i64 m.dark, .int .i64 m.slots, .int .i64 m.reserve, .int .i64 m.failures, .slice h.u m.rules.length h.uc] 29)) :=
  have hb := (Below.refl w.heap.size w).alloc (Nat.le_refl _) (.cells #[.slice h.s m.sites.length h.sc, .slice h.f m.feeds.length h.fc, .slice h.r m.racks.length h.rc, .slice h.m m.machs.length h.mc, .slice h.l m.links.length h.lc, .slice h.i m.items.length h.ic, .int .i64 m.dark, .int .i64 m.slots, .int .i64 m.reserve, .int .i64 m.failures, .slice h.u m.rules.length h.uc] 29)
  ⟨Blk.new w _ _, d.grow hb, hb⟩
set_option maxRecDepth 100000 in
set_option maxHeartbeats 4000000 in
theorem extractPlans_walk (h : MH) (m : Mod) (Ax : Option Addr) (x : List Int) (cx : Nat) (w : World) (d : MD w w.heap.size h m) (k1 : m.racks.length ≤ h.rc) (k2 : m.machs.length ≤ h.mc) (k3 : m.links.length ≤ h.lc) (hx : Ints w w.heap.size Ax x) (ha : Asc w) :
    Calls Tryz.prog 3 #[.agg #[.slice h.s m.sites.length h.sc, .slice h.f m.feeds.length h.fc, .slice h.r m.racks.length h.rc, .slice h.m m.machs.length h.mc, .slice h.l m.links.length h.lc, .slice h.i m.items.length h.ic, .int .i64 m.dark, .int .i64 m.slots, .int .i64 m.reserve, .int .i64 m.failures, .slice h.u m.rules.length h.uc], .slice Ax x.length cx] w (AnsR w (.bool true)) := by
  have HS0 := hide (A27.start h m w d)
  have HAW := hide (fun W (s : A27 w h m w.heap.size W) => awake27 W (ha.below (Nat.le_refl _) s.b))
  have HF := hide (fun W (s : A27 w h m w.heap.size W) => few27_law h m Ax none x.length 0 cx 0 W s.d)
  have hxp : ∀ W, A27 w h m w.heap.size W → _ := fun W s => xplan_prog h m Ax x cx W s.d k1 k2 k3 (ha.below (Nat.le_refl _) s.b) (hx.grow s.b)
  have hrp : ∀ W, A27 w h m w.heap.size W → _ := fun W s => rplan_ref h m Ax x cx W s.d (hx.grow s.b)
  have hsl := xplan_short m x
  obtain ⟨⟨l, q⟩, hlq⟩ : ∃ lq, lq = xplanR m x := ⟨_, rfl⟩
  rw [← hlq] at hxp hrp hsl
  dsimp only at hxp hrp hsl
  have HXP := hide hxp
  have HRP := hide hrp
  have HSL := hide hsl
  clear hxp hrp hsl hlq d k1 k2 k3 hx ha
  go_enter Tryz.func3, Tryz.ntmps3
  go_upto_region 3 with (first
    | (go_at_call 7; (with_reducible refine (HAW.out _ HS0.out).mono ?_); rintro e w1 ⟨rfl, hb1⟩
       have HS1 := hide (HS0.out.grow hb1)
       obtain ⟨a0, a1, a2, a3, a4, a5, a6, a7, a8, a9, a10⟩ := MB.cells HS1.out.mb
       have al := HS1.out.mb.lt
       clear hb1 HS0)
    | (go_at_call 8; (with_reducible refine (HF.out _ HS1.out).mono ?_); rintro e w2 ⟨⟨b, rfl, _⟩, hb2⟩
       have HS2 := hide (HS1.out.grow hb2)
       clear hb2 a0 a1 a2 a3 a4 a5 a6 a7 a8 a9 a10 al
       obtain ⟨a0, a1, a2, a3, a4, a5, a6, a7, a8, a9, a10⟩ := MB.cells HS2.out.mb
       have al := HS2.out.mb.lt
       cases b)
    | (go_at_call 7; (with_reducible refine (HAW.out _ HS2.out).mono ?_); rintro e w3 ⟨rfl, hb3⟩
       have HS3 := hide (HS2.out.grow hb3)
       clear hb3))
  · go_ret
    exact ⟨rfl, HS3.out.b⟩
  · go_upto_region 4 with (go_at_call 9; (with_reducible refine (HXP.out _ HS2.out).mono ?_); rintro e w4 ⟨A4, c4, rfl, hr4, hb4⟩
                           have HS4 := hide (HS2.out.grow hb4)
                           have HR4 := hide hr4
                           clear hr4 hb4)
    have hg4 : Below w4.heap.size w4 (w4.alloc (.cells #[.slice A4 l.length c4] 35)) := (Below.refl _ _).alloc (Nat.le_refl _) _
    have HS5 := hide (HS4.out.grow hg4)
    have HR5 := hide (HR4.out.grow hg4)
    have HB5 := hide (Blk.new w4 35 #[.slice A4 l.length c4])
    obtain ⟨w5, hw5⟩ : ∃ w5, w5 = w4.alloc (.cells #[.slice A4 l.length c4] 35) := ⟨_, rfl⟩
    obtain ⟨bp, hbp⟩ : ∃ bp, bp = w4.heap.size := ⟨_, rfl⟩
    rw [← hw5] at HS5 HR5 HB5 ⊢
    rw [← hbp] at HB5 ⊢
    clear hw5 hbp hg4 HS4 HR4 a0 a1 a2 a3 a4 a5 a6 a7 a8 a9 a10 al
    obtain ⟨a0, a1, a2, a3, a4, a5, a6, a7, a8, a9, a10⟩ := MB.cells HS5.out.mb
    have al := HS5.out.mb.lt
    go_upto_region 5 with (go_at_call 10; (with_reducible refine (HRP.out _ HS5.out).mono ?_); rintro e w6 ⟨A6, c6, rfl, hr6, hb6⟩
                           have HS6 := hide (HS5.out.grow hb6)
                           have HR6 := hide (HR5.out.grow hb6)
                           have HQ6 := hide hr6
                           have HB6 := hide (HB5.out.below hb6 HB5.out.lt)
                           clear hr6 hb6 a0 a1 a2 a3 a4 a5 a6 a7 a8 a9 a10 al)
    have hg6 : Below w6.heap.size w6 (w6.alloc (.cells #[.slice A6 l.length c6] 35)) := (Below.refl _ _).alloc (Nat.le_refl _) _
    have HSA := hide (same24_ref A4 A6 c4 c6 l _ (by have := HSL.out; omega) (HR6.out.grow hg6) (HQ6.out.grow hg6))
    have p0 := HB6.out.cell 0
    have pl := HB6.out.lt
    simp at p0
    have HG6 := hide hg6
    clear hg6
    go_wp2_with (go_at_call 11; (with_reducible refine HSA.out.mono ?_); rintro e w7 ⟨rfl, hb7⟩
                 have HB7 := hide (HG6.out.trans (hb7.mono (by simp)))
                 clear hb7 p0 pl)
    go_ret
    exact ⟨by simp, HS6.out.b.trans (HB7.out.mono HS6.out.b.size)⟩
end Go.Proofs.YtpggamapmgpjcaaGreatDoor

namespace Go.Proofs.YtpggamapmgpjcaaGreatDoor
open Go Go.RowKit Go.Proofs

/-- the boxes of the model and of the plan -/
structure B27 (w : World) (h : MH) (m : Mod) (A : Option Addr) (n c : Nat) (W : World) : Prop where
  a : A27 w h m w.heap.size W
  p : Blk W (w.heap.size + 1) 35 #[.slice A n c]
theorem B27.grow {w : World} {h : MH} {m : Mod} {A : Option Addr} {n c : Nat} {W W2 : World} (s : B27 w h m A n c W) (hb : Below W.heap.size W W2) : B27 w h m A n c W2 := ⟨s.a.grow hb, s.p.below hb s.p.lt⟩
theorem B27.start (h : MH) (m : Mod) (A : Option Addr) (n c : Nat) (w : World) (d : MD w w.heap.size h m) : B27 w h m A n c ((w.alloc (.cells #[.slice h.s m.sites.length h.sc, .slice h.f m.feeds.length h.fc, .slice h.r m.racks.length h.rc, .slice h.m m.machs.length h.mc, .slice h.l m.links.length h.lc, .slice h.i m.items.length h.ic, .int .i64 m.dark, .int .i64 m.slots, .int .i64 m.reserve, .int .i64 m.failures, .slice h.u m.rules.length h.uc] 29)).alloc (.cells #[.slice A n c] 35)) :=
  ⟨(A27.start h m w d).grow ((Below.refl _ _).alloc (Nat.le_refl _) _), by simpa using Blk.new (w.alloc (.cells #[.slice h.s m.sites.length h.sc, .slice h.f m.feeds.length h.fc, .slice h.r m.racks.length h.rc, .slice h.m m.machs.length h.mc, .slice h.l m.links.length h.lc, .slice h.i m.items.length h.ic, .int .i64 m.dark, .int .i64 m.slots, .int .i64 m.reserve, .int .i64 m.failures, .slice h.u m.rules.length h.uc] 29)) 35 #[.slice A n c]⟩
theorem B27.cells {w : World} {h : MH} {m : Mod} {A : Option Addr} {n c : Nat} {W : World} (s : B27 w h m A n c W) : W.cell? ⟨w.heap.size + 1, 0, none⟩ = some (.slice A n c) ∧ w.heap.size + 1 < W.heap.size := ⟨by rw [s.p.cell 0]; simp, s.p.lt⟩
theorem pointGo_len (e1 e2 : Int) (L : List StM) : ∀ (p : List StM) (o : List Int), (pointGo e1 e2 L p o).1.length ≤ o.length
  | [], o => Nat.le_refl _
  | s :: r, o => by
    unfold pointGo
    split
    · split
      · simp
      · have := pointGo_len e1 e2 L r (o.set (L.idxOf s) 1)
        simpa using this
    · simp
theorem xpoint_short (m : Mod) (p : List StM) : (xpointR m p).1.length ≤ 48000 := by
  unfold xpointR
  by_cases hc : (choR m).2 = 0
  · rw [if_neg (by simpa using hc)]
    have h1 := steps_len (choR_ok hc).1
    have h2 := pointGo_len 6 5 (stepsM m) p (List.replicate (stepsM m).length 0)
    simp at h2
    omega
  · rw [if_pos hc]; simp
set_option maxRecDepth 100000 in
set_option maxHeartbeats 4000000 in
theorem extractPoints_walk (h : MH) (m : Mod) (Ap : Option Addr) (p : List StM) (cp : Nat) (w : World) (d : MD w w.heap.size h m) (k1 : m.racks.length ≤ h.rc) (k2 : m.machs.length ≤ h.mc) (k3 : m.links.length ≤ h.lc) (hp : RdE elSt w Ap p) (ha : Asc w) :
    Calls Tryz.prog 4 #[.agg #[.slice h.s m.sites.length h.sc, .slice h.f m.feeds.length h.fc, .slice h.r m.racks.length h.rc, .slice h.m m.machs.length h.mc, .slice h.l m.links.length h.lc, .slice h.i m.items.length h.ic, .int .i64 m.dark, .int .i64 m.slots, .int .i64 m.reserve, .int .i64 m.failures, .slice h.u m.rules.length h.uc], .agg #[.slice Ap p.length cp]] w (AnsR w (.bool true)) := by
  have HS0 := hide (B27.start h m Ap p.length cp w d)
  have HAW := hide (fun W (s : B27 w h m Ap p.length cp W) => awake27 W (ha.below (Nat.le_refl _) s.a.b))
  have HF := hide (fun W (s : B27 w h m Ap p.length cp W) => few27_law h m none Ap 0 p.length 0 cp W s.a.d)
  have hxp : p.length ≤ 60 → ∀ W, B27 w h m Ap p.length cp W → _ := fun hl W s => xpoint_prog h m Ap p cp W s.a.d k1 k2 k3 (ha.below (Nat.le_refl _) s.a.b) (hp.grow s.a.b) (by omega)
  have hrp : p.length ≤ 60 → ∀ W, B27 w h m Ap p.length cp W → _ := fun hl W s => rpoint_ref h m Ap p cp W s.a.d (hp.grow s.a.b) (by omega)
  have hsl := xpoint_short m p
  obtain ⟨⟨l, q⟩, hlq⟩ : ∃ lq, lq = xpointR m p := ⟨_, rfl⟩
  rw [← hlq] at hxp hrp hsl
  dsimp only at hxp hrp hsl
  have HXP := hide hxp
  have HRP := hide hrp
  have HSL := hide hsl
  clear hxp hrp hsl hlq d k1 k2 k3 hp ha
  go_enter Tryz.func4, Tryz.ntmps4
  go_upto_region 3 with (first
    | (go_at_call 7; (with_reducible refine (HAW.out _ HS0.out).mono ?_); rintro e w1 ⟨rfl, hb1⟩
       have HS1 := hide (HS0.out.grow hb1)
       obtain ⟨a0, a1, a2, a3, a4, a5, a6, a7, a8, a9, a10⟩ := MB.cells HS1.out.a.mb
       have al := HS1.out.a.mb.lt
       obtain ⟨p0, pl⟩ := HS1.out.cells
       clear hb1 HS0)
    | (go_at_call 8; (with_reducible refine (HF.out _ HS1.out).mono ?_); rintro e w2 ⟨⟨b, rfl, hfew⟩, hb2⟩
       have HS2 := hide (HS1.out.grow hb2)
       have HFW := hide hfew
       clear hb2 hfew a0 a1 a2 a3 a4 a5 a6 a7 a8 a9 a10 al p0 pl
       obtain ⟨a0, a1, a2, a3, a4, a5, a6, a7, a8, a9, a10⟩ := MB.cells HS2.out.a.mb
       have al := HS2.out.a.mb.lt
       obtain ⟨p0, pl⟩ := HS2.out.cells
       cases b)
    | (go_at_call 7; (with_reducible refine (HAW.out _ HS2.out).mono ?_); rintro e w3 ⟨rfl, hb3⟩
       have HS3 := hide (HS2.out.grow hb3)
       clear hb3))
  · go_ret
    exact ⟨rfl, HS3.out.a.b⟩
  · have hl60 : p.length ≤ 60 := (HFW.out (by first | trivial | rfl)).2.2
    go_upto_region 4 with (go_at_call 12; (with_reducible refine (HXP.out hl60 _ HS2.out).mono ?_); rintro e w4 ⟨A4, c4, rfl, hr4, hb4⟩
                           have HS4 := hide (HS2.out.grow hb4)
                           have HR4 := hide hr4
                           clear hr4 hb4 a0 a1 a2 a3 a4 a5 a6 a7 a8 a9 a10 al p0 pl
                           obtain ⟨a0, a1, a2, a3, a4, a5, a6, a7, a8, a9, a10⟩ := MB.cells HS4.out.a.mb
                           have al := HS4.out.a.mb.lt
                           obtain ⟨p0, pl⟩ := HS4.out.cells)
    go_upto_region 5 with (go_at_call 13; (with_reducible refine (HRP.out hl60 _ HS4.out).mono ?_); rintro e w6 ⟨A6, c6, rfl, hr6, hb6⟩
                           have HS6 := hide (HS4.out.grow hb6)
                           have HR6 := hide (HR4.out.grow hb6)
                           have HQ6 := hide hr6
                           clear hr6 hb6 a0 a1 a2 a3 a4 a5 a6 a7 a8 a9 a10 al p0 pl)
    have HSA := hide (same08_ref A4 A6 c4 c6 l _ (by have := HSL.out; omega) HR6.out HQ6.out)
    go_wp2_with (go_at_call 14; (with_reducible refine HSA.out.mono ?_); rintro e w7 ⟨rfl, hb7⟩
                 have HB7 := hide hb7
                 clear hb7)
    go_ret
    exact ⟨by simp, HS6.out.a.b.trans (HB7.out.mono HS6.out.a.b.size)⟩
end Go.Proofs.YtpggamapmgpjcaaGreatDoor

namespace Go.Proofs.YtpggamapmgpjcaaGreatDoor
open Go Go.RowKit Go.Proofs

theorem xplan_none (m : Mod) (x : List Int) : (xplanR m x).2 ≠ 0 → (xplanR m x).1 = [] := by
  unfold xplanR planA
  split
  · exact fun _ => rfl
  · split
    · exact fun _ => rfl
    · split
      · exact fun _ => rfl
      · exact fun h => absurd rfl h
theorem good_of_bad {x : List Int} (h : badX x = false) : ∀ v ∈ x, v = 0 ∨ v = 1 := fun v hv => by
  rw [badX, List.any_eq_false] at h
  have := h v hv
  simp only [decide_eq_true_eq] at this
  omega
/-- the point of the plan of a point is this point -/
theorem returns27 (m : Mod) (x : List Int) : (xplanR m x).2 = 0 → xpointR m (xplanR m x).1 = (x, 0) := by
  unfold xplanR xpointR
  by_cases hc : (choR m).2 ≠ 0
  · rw [if_pos hc]; exact fun h => absurd h hc
  · rw [if_neg hc, if_neg hc]
    unfold planA
    split
    · exact fun h => absurd h (by decide)
    · rename_i hl
      split
      · exact fun h => absurd h (by decide)
      · rename_i hb
        intro _
        exact point_plan 6 5 (stepsM m) (steps_nodup m) x (by omega) (good_of_bad (by simpa using hb))
set_option maxRecDepth 100000 in
set_option maxHeartbeats 4000000 in
theorem extractReturns_walk (h : MH) (m : Mod) (Ax : Option Addr) (x : List Int) (cx : Nat) (w : World) (d : MD w w.heap.size h m) (k1 : m.racks.length ≤ h.rc) (k2 : m.machs.length ≤ h.mc) (k3 : m.links.length ≤ h.lc) (hx : Ints w w.heap.size Ax x) (ha : Asc w) :
    Calls Tryz.prog 5 #[.agg #[.slice h.s m.sites.length h.sc, .slice h.f m.feeds.length h.fc, .slice h.r m.racks.length h.rc, .slice h.m m.machs.length h.mc, .slice h.l m.links.length h.lc, .slice h.i m.items.length h.ic, .int .i64 m.dark, .int .i64 m.slots, .int .i64 m.reserve, .int .i64 m.failures, .slice h.u m.rules.length h.uc], .slice Ax x.length cx] w (AnsR w (.bool true)) := by
  have HS0 := hide (A27.start h m w d)
  have HAW := hide (fun W (s : A27 w h m w.heap.size W) => awake27 W (ha.below (Nat.le_refl _) s.b))
  have HF := hide (fun W (s : A27 w h m w.heap.size W) => few27_law h m Ax none x.length 0 cx 0 W s.d)
  have hxp : ∀ W, A27 w h m w.heap.size W → _ := fun W s => xplan_prog h m Ax x cx W s.d k1 k2 k3 (ha.below (Nat.le_refl _) s.b) (hx.grow s.b)
  have hpp : ∀ A (l : List StM) c, l.length ≤ 48000 → ∀ W, A27 w h m w.heap.size W → RdE elSt W A l → _ := fun A l c hl W s hr => xpoint_prog h m A l c W s.d k1 k2 k3 (ha.below (Nat.le_refl _) s.b) hr (by omega)
  have hret := returns27 m x
  have hno := xplan_none m x
  have hsl := xplan_short m x
  obtain ⟨⟨l, q⟩, hlq⟩ : ∃ lq, lq = xplanR m x := ⟨_, rfl⟩
  rw [← hlq] at hxp hsl hret hno
  dsimp only at hxp hsl hret hno
  have HXP := hide hxp
  have HPP := hide hpp
  have HRET := hide hret
  have HNO := hide hno
  have HX := hide hx
  have HSL := hide hsl
  clear hxp hpp hsl hret hno hlq d k1 k2 k3 hx ha
  go_enter Tryz.func5, Tryz.ntmps5
  go_upto_region 3 with (first
    | (go_at_call 7; (with_reducible refine (HAW.out _ HS0.out).mono ?_); rintro e w1 ⟨rfl, hb1⟩
       have HS1 := hide (HS0.out.grow hb1)
       obtain ⟨a0, a1, a2, a3, a4, a5, a6, a7, a8, a9, a10⟩ := MB.cells HS1.out.mb
       have al := HS1.out.mb.lt
       clear hb1 HS0)
    | (go_at_call 8; (with_reducible refine (HF.out _ HS1.out).mono ?_); rintro e w2 ⟨⟨b, rfl, _⟩, hb2⟩
       have HS2 := hide (HS1.out.grow hb2)
       clear hb2 a0 a1 a2 a3 a4 a5 a6 a7 a8 a9 a10 al
       obtain ⟨a0, a1, a2, a3, a4, a5, a6, a7, a8, a9, a10⟩ := MB.cells HS2.out.mb
       have al := HS2.out.mb.lt
       cases b)
    | (go_at_call 7; (with_reducible refine (HAW.out _ HS2.out).mono ?_); rintro e w3 ⟨rfl, hb3⟩
       have HS3 := hide (HS2.out.grow hb3)
       clear hb3))
  · go_ret
    exact ⟨rfl, HS3.out.b⟩
  · go_upto_region 4 with (go_at_call 9; (with_reducible refine (HXP.out _ HS2.out).mono ?_); rintro e w4 ⟨A4, c4, rfl, hr4, hb4⟩
                           have HS4 := hide (HS2.out.grow hb4)
                           have HR4 := hide hr4
                           clear hr4 hb4)
    have hg4 : Below w4.heap.size w4 (w4.alloc (.cells #[.slice A4 l.length c4] 35)) := (Below.refl _ _).alloc (Nat.le_refl _) _
    have HS5 := hide (HS4.out.grow hg4)
    have HR5 := hide (HR4.out.grow hg4)
    have HB5 := hide (Blk.new w4 35 #[.slice A4 l.length c4])
    obtain ⟨w5, hw5⟩ : ∃ w5, w5 = w4.alloc (.cells #[.slice A4 l.length c4] 35) := ⟨_, rfl⟩
    obtain ⟨bp, hbp⟩ : ∃ bp, bp = w4.heap.size := ⟨_, rfl⟩
    rw [← hw5] at HS5 HR5 HB5 ⊢
    rw [← hbp] at HB5 ⊢
    clear hw5 hbp hg4 HS4 HR4 a0 a1 a2 a3 a4 a5 a6 a7 a8 a9 a10 al
    obtain ⟨a0, a1, a2, a3, a4, a5, a6, a7, a8, a9, a10⟩ := MB.cells HS5.out.mb
    have al := HS5.out.mb.lt
    have p0 := HB5.out.cell 0
    have pl := HB5.out.lt
    simp at p0
    by_cases hq : q = 0
    · subst hq
      have HPT := hide (HPP.out A4 l c4 HSL.out _ HS5.out HR5.out)
      rw [HRET.out rfl] at HPT
      go_upto_region 7 with (go_at_call 12; (with_reducible refine HPT.out.mono ?_); rintro e w6 ⟨A6, c6, rfl, hr6, hb6⟩
                             have HS6 := hide (HS5.out.grow hb6)
                             have HR6 := hide hr6
                             clear hr6 hb6 a0 a1 a2 a3 a4 a5 a6 a7 a8 a9 a10 al p0 pl)
      have hlx : x.length ≤ 48000 := by have := HRET.out (by first | trivial | rfl); have h2 := xpoint_short m l; rw [this] at h2; exact h2
      have HSA := hide (same08_ref Ax A6 cx c6 x _ (by omega) (HX.out.grow HS6.out.b) HR6.out)
      go_wp2_with (go_at_call 14; (with_reducible refine HSA.out.mono ?_); rintro e w7 ⟨rfl, hb7⟩
                   have HB7 := hide hb7
                   clear hb7)
      go_ret
      exact ⟨rfl, HS6.out.b.trans (HB7.out.mono HS6.out.b.size)⟩
    · have g : (q != 0) = true := by simpa using hq
      have hl0 : l = [] := HNO.out hq
      subst hl0
      go_wp2_with fail
      go_ret
      exact ⟨rfl, HS5.out.b⟩
end Go.Proofs.YtpggamapmgpjcaaGreatDoor

namespace Go.Proofs.YtpggamapmgpjcaaGreatDoor
open Go Go.RowKit Go.Proofs

/-- the two boxes of a model and a step -/
structure E2 (w : World) (M V : Array Value) (W : World) : Prop where
  m : Blk W w.heap.size 29 M
  v : Blk W (w.heap.size + 1) 53 V
  b : Below w.heap.size w W
theorem E2.start (w : World) (M V : Array Value) : E2 w M V ((w.alloc (.cells M 29)).alloc (.cells V 53)) :=
  ⟨(Blk.new w _ M).alloc _, by simpa using Blk.new (w.alloc (.cells M 29)) 53 V, ((Below.refl _ _).alloc (Nat.le_refl _) _).alloc (by simp) _⟩
theorem E2.grow {w : World} {M V : Array Value} {W W2 : World} (s : E2 w M V W) (hb : Below W.heap.size W W2) : E2 w M V W2 := ⟨s.m.below hb s.m.lt, s.v.below hb s.v.lt, s.b.trans (hb.mono s.b.size)⟩
theorem E2.drew {w : World} {M V : Array Value} {W : World} (s : E2 w M V W) : E2 w M V W.drew := s.grow (Below.refl _ W).drew
theorem E2.cells {w : World} {h : MH} {m : Mod} {x : StM} {W : World} (s : E2 w #[.slice h.s m.sites.length h.sc, .slice h.f m.feeds.length h.fc, .slice h.r m.racks.length h.rc, .slice h.m m.machs.length h.mc, .slice h.l m.links.length h.lc, .slice h.i m.items.length h.ic, .int .i64 m.dark, .int .i64 m.slots, .int .i64 m.reserve, .int .i64 m.failures, .slice h.u m.rules.length h.uc] #[.int .i64 x.1, .int .i64 x.2.1, .int .i64 x.2.2.1, .int .i64 x.2.2.2] W) :
    (W.cell? ⟨w.heap.size, 0, none⟩ = some (.slice h.s m.sites.length h.sc) ∧ W.cell? ⟨w.heap.size, 1, none⟩ = some (.slice h.f m.feeds.length h.fc) ∧ W.cell? ⟨w.heap.size, 2, none⟩ = some (.slice h.r m.racks.length h.rc) ∧ W.cell? ⟨w.heap.size, 3, none⟩ = some (.slice h.m m.machs.length h.mc) ∧ W.cell? ⟨w.heap.size, 4, none⟩ = some (.slice h.l m.links.length h.lc) ∧ W.cell? ⟨w.heap.size, 5, none⟩ = some (.slice h.i m.items.length h.ic) ∧ W.cell? ⟨w.heap.size, 6, none⟩ = some (.int .i64 m.dark) ∧ W.cell? ⟨w.heap.size, 7, none⟩ = some (.int .i64 m.slots) ∧ W.cell? ⟨w.heap.size, 8, none⟩ = some (.int .i64 m.reserve) ∧ W.cell? ⟨w.heap.size, 9, none⟩ = some (.int .i64 m.failures) ∧ W.cell? ⟨w.heap.size, 10, none⟩ = some (.slice h.u m.rules.length h.uc)) ∧ W.cell? ⟨w.heap.size + 1, 0, none⟩ = some (.int .i64 x.1) ∧ W.cell? ⟨w.heap.size + 1, 1, none⟩ = some (.int .i64 x.2.1) ∧ W.cell? ⟨w.heap.size + 1, 2, none⟩ = some (.int .i64 x.2.2.1) ∧ W.cell? ⟨w.heap.size + 1, 3, none⟩ = some (.int .i64 x.2.2.2) :=
  ⟨MB.cells s.m, s.v.cell 0, s.v.cell 1, s.v.cell 2, s.v.cell 3⟩
theorem durB_in {m : Mod} (hv : validM m = true) {x : MvM} (hf : fitB m x = true) : 1 ≤ durB m x ∧ durB m x ≤ 2097152 := by
  obtain ⟨n, f, t⟩ := x
  cases he : exI n m.items.length with
  | false => rw [fitB, itemAt_no he] at hf; cases hf
  | true =>
    obtain ⟨a, ha, rfl⟩ := exI_yes he
    rw [durB_yes ha]
    exact durY_in hv (List.getElem_mem ha) t
set_option maxRecDepth 100000 in
set_option maxHeartbeats 2000000 in
theorem end_prog (h : MH) (m : Mod) (x : StM) (w : World) (d : MD w w.heap.size h m) (k1 : m.racks.length ≤ h.rc) (k2 : m.machs.length ≤ h.mc) (k3 : m.links.length ≤ h.lc) (ha : Asc w) (hv : validM m = true) (hf : fitB m x.2 = true) (h0 : 0 ≤ x.1) (h1 : x.1 ≤ 1000000) :
    Calls Tryz.prog 27 #[.agg #[.slice h.s m.sites.length h.sc, .slice h.f m.feeds.length h.fc, .slice h.r m.racks.length h.rc, .slice h.m m.machs.length h.mc, .slice h.l m.links.length h.lc, .slice h.i m.items.length h.ic, .int .i64 m.dark, .int .i64 m.slots, .int .i64 m.reserve, .int .i64 m.failures, .slice h.u m.rules.length h.uc], .agg #[.int .i64 x.1, .int .i64 x.2.1, .int .i64 x.2.2.1, .int .i64 x.2.2.2]] w (AnsB w (.int .i64 (x.1 + durB m x.2))) := by
  have HS := hide (E2.start w #[.slice h.s m.sites.length h.sc, .slice h.f m.feeds.length h.fc, .slice h.r m.racks.length h.rc, .slice h.m m.machs.length h.mc, .slice h.l m.links.length h.lc, .slice h.i m.items.length h.ic, .int .i64 m.dark, .int .i64 m.slots, .int .i64 m.reserve, .int .i64 m.failures, .slice h.u m.rules.length h.uc] #[.int .i64 x.1, .int .i64 x.2.1, .int .i64 x.2.2.1, .int .i64 x.2.2.2])
  have HD := hide (fun W (s : E2 w #[.slice h.s m.sites.length h.sc, .slice h.f m.feeds.length h.fc, .slice h.r m.racks.length h.rc, .slice h.m m.machs.length h.mc, .slice h.l m.links.length h.lc, .slice h.i m.items.length h.ic, .int .i64 m.dark, .int .i64 m.slots, .int .i64 m.reserve, .int .i64 m.failures, .slice h.u m.rules.length h.uc] #[.int .i64 x.1, .int .i64 x.2.1, .int .i64 x.2.2.1, .int .i64 x.2.2.2] W) => dur_prog h m x.2 W (d.grow s.b) k1 k2 k3 (ha.below (Nat.le_refl _) s.b) hv hf)
  have hd := durB_in hv hf
  obtain ⟨dd, hdd⟩ : ∃ dd, dd = durB m x.2 := ⟨_, rfl⟩
  rw [← hdd] at HD hd ⊢
  have hw : IntKind.i64.wrap (x.1 + dd) = x.1 + dd := IntWalk.i64_in _ (by omega)
  clear hdd d k1 k2 k3 ha hv hf
  go_enter Tryz.func27, Tryz.ntmps27
  go_wp2_with fail
  go_region_held3 (fun W => ((W.cell? ⟨w.heap.size, 0, none⟩ = some (.slice h.s m.sites.length h.sc) ∧ W.cell? ⟨w.heap.size, 1, none⟩ = some (.slice h.f m.feeds.length h.fc) ∧ W.cell? ⟨w.heap.size, 2, none⟩ = some (.slice h.r m.racks.length h.rc) ∧ W.cell? ⟨w.heap.size, 3, none⟩ = some (.slice h.m m.machs.length h.mc) ∧ W.cell? ⟨w.heap.size, 4, none⟩ = some (.slice h.l m.links.length h.lc) ∧ W.cell? ⟨w.heap.size, 5, none⟩ = some (.slice h.i m.items.length h.ic) ∧ W.cell? ⟨w.heap.size, 6, none⟩ = some (.int .i64 m.dark) ∧ W.cell? ⟨w.heap.size, 7, none⟩ = some (.int .i64 m.slots) ∧ W.cell? ⟨w.heap.size, 8, none⟩ = some (.int .i64 m.reserve) ∧ W.cell? ⟨w.heap.size, 9, none⟩ = some (.int .i64 m.failures) ∧ W.cell? ⟨w.heap.size, 10, none⟩ = some (.slice h.u m.rules.length h.uc)) ∧ W.cell? ⟨w.heap.size + 1, 0, none⟩ = some (.int .i64 x.1) ∧ W.cell? ⟨w.heap.size + 1, 1, none⟩ = some (.int .i64 x.2.1) ∧ W.cell? ⟨w.heap.size + 1, 2, none⟩ = some (.int .i64 x.2.2.1) ∧ W.cell? ⟨w.heap.size + 1, 3, none⟩ = some (.int .i64 x.2.2.2)) ∧ E2 w #[.slice h.s m.sites.length h.sc, .slice h.f m.feeds.length h.fc, .slice h.r m.racks.length h.rc, .slice h.m m.machs.length h.mc, .slice h.l m.links.length h.lc, .slice h.i m.items.length h.ic, .int .i64 m.dark, .int .i64 m.slots, .int .i64 m.reserve, .int .i64 m.failures, .slice h.u m.rules.length h.uc] #[.int .i64 x.1, .int .i64 x.2.1, .int .i64 x.2.2.1, .int .i64 x.2.2.2] W)
    ((with_reducible (first | (go_keep; done) | exact ⟨E2.cells HS.out.drew, HS.out.drew⟩ | exact ⟨E2.cells s1, s1⟩)))
    ((go_at_call 41; (with_reducible refine (HD.out _ (E2.drew HS.out)).mono ?_); rintro e w2 ⟨rfl, hg⟩; have s1 := (E2.drew HS.out).grow hg; clear hg))
  go_wp2_with fail
  go_ret
  exact ⟨rfl, s1.b⟩
/-- the boxes of plan.Valid in a round: the model, the plan, the step x, and the step y of the plan's row -/
structure V27 (w0 w : World) (h : MH) (m : Mod) (A : Option Addr) (n c bx : Nat) (x y : StM) (b o : Nat) (W : World) : Prop where
  mb : Blk W w.heap.size 29 #[.slice h.s m.sites.length h.sc, .slice h.f m.feeds.length h.fc, .slice h.r m.racks.length h.rc, .slice h.m m.machs.length h.mc, .slice h.l m.links.length h.lc, .slice h.i m.items.length h.ic, .int .i64 m.dark, .int .i64 m.slots, .int .i64 m.reserve, .int .i64 m.failures, .slice h.u m.rules.length h.uc]
  pb : Blk W (w.heap.size + 1) 35 #[.slice A n c]
  xb : Blk W bx 53 #[.int .i64 x.1, .int .i64 x.2.1, .int .i64 x.2.2.1, .int .i64 x.2.2.2]
  yc : W.cell? ⟨b, o, none⟩ = some (.int .i64 y.1) ∧ W.cell? ⟨b, o + 1, none⟩ = some (.int .i64 y.2.1) ∧ W.cell? ⟨b, o + 2, none⟩ = some (.int .i64 y.2.2.1) ∧ W.cell? ⟨b, o + 3, none⟩ = some (.int .i64 y.2.2.2)
  yl : b < W.heap.size
  b : Below w.heap.size w W
  g : Below w0.heap.size w0 W
theorem V27.grow {w0 w : World} {h : MH} {m : Mod} {A : Option Addr} {n c bx : Nat} {x y : StM} {b o : Nat} {W W2 : World} (s : V27 w0 w h m A n c bx x y b o W) (hb : Below W.heap.size W W2) : V27 w0 w h m A n c bx x y b o W2 :=
  ⟨s.mb.below hb s.mb.lt, s.pb.below hb s.pb.lt, s.xb.below hb s.xb.lt, ⟨(hb.cell (p := ⟨b, o, none⟩) s.yl).trans s.yc.1, (hb.cell (p := ⟨b, o + 1, none⟩) s.yl).trans s.yc.2.1, (hb.cell (p := ⟨b, o + 2, none⟩) s.yl).trans s.yc.2.2.1, (hb.cell (p := ⟨b, o + 3, none⟩) s.yl).trans s.yc.2.2.2⟩, Nat.lt_of_lt_of_le s.yl hb.size, s.b.trans (hb.mono s.b.size), s.g.trans (hb.mono s.g.size)⟩
theorem V27.drew {w0 w : World} {h : MH} {m : Mod} {A : Option Addr} {n c bx : Nat} {x y : StM} {b o : Nat} {W : World} (s : V27 w0 w h m A n c bx x y b o W) : V27 w0 w h m A n c bx x y b o W.drew := s.grow (Below.refl _ W).drew
theorem V27.cells {w0 w : World} {h : MH} {m : Mod} {A : Option Addr} {n c bx : Nat} {x y : StM} {b o : Nat} {W : World} (s : V27 w0 w h m A n c bx x y b o W) :
    (W.cell? ⟨w.heap.size, 0, none⟩ = some (.slice h.s m.sites.length h.sc) ∧ W.cell? ⟨w.heap.size, 1, none⟩ = some (.slice h.f m.feeds.length h.fc) ∧ W.cell? ⟨w.heap.size, 2, none⟩ = some (.slice h.r m.racks.length h.rc) ∧ W.cell? ⟨w.heap.size, 3, none⟩ = some (.slice h.m m.machs.length h.mc) ∧ W.cell? ⟨w.heap.size, 4, none⟩ = some (.slice h.l m.links.length h.lc) ∧ W.cell? ⟨w.heap.size, 5, none⟩ = some (.slice h.i m.items.length h.ic) ∧ W.cell? ⟨w.heap.size, 6, none⟩ = some (.int .i64 m.dark) ∧ W.cell? ⟨w.heap.size, 7, none⟩ = some (.int .i64 m.slots) ∧ W.cell? ⟨w.heap.size, 8, none⟩ = some (.int .i64 m.reserve) ∧ W.cell? ⟨w.heap.size, 9, none⟩ = some (.int .i64 m.failures) ∧ W.cell? ⟨w.heap.size, 10, none⟩ = some (.slice h.u m.rules.length h.uc)) ∧ W.cell? ⟨w.heap.size + 1, 0, none⟩ = some (.slice A n c) ∧ (W.cell? ⟨bx, 0, none⟩ = some (.int .i64 x.1) ∧ W.cell? ⟨bx, 1, none⟩ = some (.int .i64 x.2.1) ∧ W.cell? ⟨bx, 2, none⟩ = some (.int .i64 x.2.2.1) ∧ W.cell? ⟨bx, 3, none⟩ = some (.int .i64 x.2.2.2)) ∧ W.cell? ⟨b, o, none⟩ = some (.int .i64 y.1) ∧ W.cell? ⟨b, o + 1, none⟩ = some (.int .i64 y.2.1) ∧ W.cell? ⟨b, o + 2, none⟩ = some (.int .i64 y.2.2.1) ∧ W.cell? ⟨b, o + 3, none⟩ = some (.int .i64 y.2.2.2) :=
  ⟨MB.cells s.mb, s.pb.cell 0, ⟨s.xb.cell 0, s.xb.cell 1, s.xb.cell 2, s.xb.cell 3⟩, s.yc⟩
/-- the steps of a valid plan, as far as its steps themselves are meant -/
def okP (m : Mod) (l : List StM) : Prop := Up l ∧ ∀ s ∈ l, s ∈ stepsM m
theorem okP_snoc {m : Mod} {p : List StM} {k j : Nat} (hk : k < p.length) {x y : StM} (hx : x = p[k]) (hj : j = k - 1) (hy : y = p[j]'(by omega)) (h : okP m (p.take k)) (hf : x.2 ∈ candM m) (h0 : 0 ≤ x.1) (h1 : x.1 + durB m x.2 ≤ m.slots) (hc : k = 0 ∨ cmpS y x < 0) : okP m (p.take (k + 1)) := by
  rw [List.take_succ_eq_append_getElem hk, ← hx]
  refine ⟨?_, fun s hs => ?_⟩
  · rw [Up, List.pairwise_append]
    refine ⟨h.1, by simp, fun a ha b hb => ?_⟩
    obtain rfl : b = x := by simpa using hb
    obtain ⟨i, hi, ea⟩ := List.getElem_of_mem ha
    have hik : i < k := by simp at hi; omega
    rcases hc with h2 | h2
    · omega
    · have hyx : ltS y b = true := by rw [ltS]; exact decide_eq_true h2
      by_cases e : i = j
      · subst e
        rw [List.getElem_take] at ea
        rw [← ea, ← hy]; exact hyx
      · have hp := List.pairwise_iff_getElem.1 h.1 i j hi (by simp; omega) (by omega)
        rw [ea, List.getElem_take, ← hy] at hp
        exact ltS_swo.trans _ _ _ hp hyx
  · rcases List.mem_append.1 hs with h2 | h2
    · exact h.2 s h2
    · obtain rfl : s = x := by simpa using h2
      exact mem_steps.2 ⟨hf, h0, h1⟩
set_option maxRecDepth 100000 in
set_option maxHeartbeats 8000000 in
theorem pvalid_no (h : MH) (m : Mod) (Ap : Option Addr) (p : List StM) (cp : Nat) (w : World) (d : MD w w.heap.size h m) (k1 : m.racks.length ≤ h.rc) (k2 : m.machs.length ≤ h.mc) (k3 : m.links.length ≤ h.lc) (ha : Asc w) (hp : RdE elSt w Ap p) (hpl : p.length ≤ 1000000) (hv : validM m = true) (hno : ¬ okP m p) :
    Calls Tryz.prog 16 #[.agg #[.slice h.s m.sites.length h.sc, .slice h.f m.feeds.length h.fc, .slice h.r m.racks.length h.rc, .slice h.m m.machs.length h.mc, .slice h.l m.links.length h.lc, .slice h.i m.items.length h.ic, .int .i64 m.dark, .int .i64 m.slots, .int .i64 m.reserve, .int .i64 m.failures, .slice h.u m.rules.length h.uc], .agg #[.slice Ap p.length cp]] w (AnsB w (.bool false)) := by
  have hb0 := ((Below.refl w.heap.size w).alloc (Nat.le_refl _) (.cells #[.slice h.s m.sites.length h.sc, .slice h.f m.feeds.length h.fc, .slice h.r m.racks.length h.rc, .slice h.m m.machs.length h.mc, .slice h.l m.links.length h.lc, .slice h.i m.items.length h.ic, .int .i64 m.dark, .int .i64 m.slots, .int .i64 m.reserve, .int .i64 m.failures, .slice h.u m.rules.length h.uc] 29)).alloc (by simp) (.cells #[.slice Ap p.length cp] 35)
  have HB0 := hide hb0
  have HM0 := hide ((Blk.new w 29 #[.slice h.s m.sites.length h.sc, .slice h.f m.feeds.length h.fc, .slice h.r m.racks.length h.rc, .slice h.m m.machs.length h.mc, .slice h.l m.links.length h.lc, .slice h.i m.items.length h.ic, .int .i64 m.dark, .int .i64 m.slots, .int .i64 m.reserve, .int .i64 m.failures, .slice h.u m.rules.length h.uc]).alloc (.cells #[.slice Ap p.length cp] 35))
  have HP0 := hide (show Blk ((w.alloc (.cells #[.slice h.s m.sites.length h.sc, .slice h.f m.feeds.length h.fc, .slice h.r m.racks.length h.rc, .slice h.m m.machs.length h.mc, .slice h.l m.links.length h.lc, .slice h.i m.items.length h.ic, .int .i64 m.dark, .int .i64 m.slots, .int .i64 m.reserve, .int .i64 m.failures, .slice h.u m.rules.length h.uc] 29)).alloc (.cells #[.slice Ap p.length cp] 35)) (w.heap.size + 1) 35 #[.slice Ap p.length cp] from by simpa using Blk.new (w.alloc (.cells #[.slice h.s m.sites.length h.sc, .slice h.f m.feeds.length h.fc, .slice h.r m.racks.length h.rc, .slice h.m m.machs.length h.mc, .slice h.l m.links.length h.lc, .slice h.i m.items.length h.ic, .int .i64 m.dark, .int .i64 m.slots, .int .i64 m.reserve, .int .i64 m.failures, .slice h.u m.rules.length h.uc] 29)) 35 #[.slice Ap p.length cp])
  have HV := hide (validM_prog h m _ (d.grow hb0) k1 k2 k3 (ha.below (Nat.le_refl _) hb0) hv)
  have HMV := hide (fun (x : StM) W (hW : Below w.heap.size w W) => mvalid_prog h m x.2 W (d.grow hW) k1 k2 k3 (ha.below (Nat.le_refl _) hW))
  have HEN := hide (fun (x : StM) (hf : fitB m x.2 = true) (h0 : 0 ≤ x.1) (h1 : x.1 ≤ 1000000) W (hW : Below w.heap.size w W) => end_prog h m x W (d.grow hW) k1 k2 k3 (ha.below (Nat.le_refl _) hW) hv hf h0 h1)
  have HPR := hide hp
  have HNO := hide hno
  have HSL := hide (show m.slots ≤ 1000 by have h3 := hv; simp only [validM, sizesB, wiI, Bool.and_eq_true, decide_eq_true_eq] at h3; omega)
  have HFC := hide (fun (x : MvM) (hx : fitB m x = true) => fit_cand hv hx)
  rw [hv] at HMV
  simp only [Bool.true_and] at HMV
  clear hb0 d k1 k2 k3 ha hp hv hno
  go_enter Tryz.func16, Tryz.ntmps16
  go_wp2_with (go_at_call 25; refine HV.out.mono ?_; rintro e w1 ⟨rfl, hb1⟩
               have HM1 := hide (HM0.out.below hb1 HM0.out.lt)
               have hP := HP0.out.below hb1 HP0.out.lt
               have p0 := hP.cell 0
               have l0 := hP.lt
               simp at p0
               have HP1 := hide hP
               have HB1 := hide (HB0.out.trans (hb1.mono HB0.out.size))
               clear hb1 hP HV)
  clear p0 l0
  go_loopw [15] (fun i wr => ∃ k : Nat, k ≤ p.length ∧ i = .int .i64 k ∧ Hid (okP m (p.take k)) ∧ Hid (Below w1.heap.size w1 wr)) (fun i _ => p.length - (intOf i).toNat)
  case atStart => exact ⟨0, Nat.zero_le _, rfl, hide ⟨by simp [Up], by simp⟩, hide (Below.refl _ _)⟩
  case round =>
    obtain ⟨k, hk, rfl, hok, hbr⟩ := hrel
    rename World => w5
    by_cases hlt : k < p.length
    · obtain ⟨b2, o2, hA2, hbl2, y0, y1, y2, y3⟩ := rd_st (RdE.grow HPR.out (HB1.out.trans (hbr.out.mono HB1.out.size))) hlt
      obtain ⟨x, hx⟩ : ∃ x, x = p[k] := ⟨_, rfl⟩
      rw [← hx] at y0 y1 y2 y3
      have hltI : (k : Int) < (p.length : Int) := by omega
      have HX := hide hx
      subst hA2
      clear hx
      have hs6 : ∀ (y : StM) (o : Nat), (w5.cell? ⟨b2, o, none⟩ = some (.int .i64 y.1) ∧ w5.cell? ⟨b2, o + 1, none⟩ = some (.int .i64 y.2.1) ∧ w5.cell? ⟨b2, o + 2, none⟩ = some (.int .i64 y.2.2.1) ∧ w5.cell? ⟨b2, o + 3, none⟩ = some (.int .i64 y.2.2.2)) → V27 (w5.alloc (.cells #[.int .i64 x.1, .int .i64 x.2.1, .int .i64 x.2.2.1, .int .i64 x.2.2.2] 53)) w h m (some ⟨b2, o2, none⟩) p.length cp w5.heap.size x y b2 o (w5.alloc (.cells #[.int .i64 x.1, .int .i64 x.2.1, .int .i64 x.2.2.1, .int .i64 x.2.2.2] 53)) := fun y o hy => by
        have hg : Below w5.heap.size w5 (w5.alloc (.cells #[.int .i64 x.1, .int .i64 x.2.1, .int .i64 x.2.2.1, .int .i64 x.2.2.2] 53)) := (Below.refl _ _).alloc (Nat.le_refl _) _
        exact ⟨(HM1.out.below hbr.out HM1.out.lt).below hg (HM1.out.below hbr.out HM1.out.lt).lt, (HP1.out.below hbr.out HP1.out.lt).below hg (HP1.out.below hbr.out HP1.out.lt).lt, Blk.new w5 _ _,
          ⟨(hg.cell (p := ⟨b2, o, none⟩) hbl2).trans hy.1, (hg.cell (p := ⟨b2, o + 1, none⟩) hbl2).trans hy.2.1, (hg.cell (p := ⟨b2, o + 2, none⟩) hbl2).trans hy.2.2.1, (hg.cell (p := ⟨b2, o + 3, none⟩) hbl2).trans hy.2.2.2⟩, Nat.lt_of_lt_of_le hbl2 hg.size, (HB1.out.trans (hbr.out.mono HB1.out.size)).trans (hg.mono (HB1.out.trans (hbr.out.mono HB1.out.size)).size), Below.refl _ _⟩
      have HS6 := hide hs6
      have HY := hide (And.intro y0 (And.intro y1 (And.intro y2 y3)))
      have HB5 := hide (hbr.out.alloc hbr.out.size (.cells #[.int .i64 x.1, .int .i64 x.2.1, .int .i64 x.2.2.1, .int .i64 x.2.2.2] 53))
      have HMX := hide (HMV.out x)
      have HEX := hide (HEN.out x)
      clear hs6
      go_upto_region 6 with (fail)
      obtain ⟨w6, hw6⟩ : ∃ w6, w6 = w5.alloc (.cells #[.int .i64 x.1, .int .i64 x.2.1, .int .i64 x.2.2.1, .int .i64 x.2.2.2] 53) := ⟨_, rfl⟩
      obtain ⟨bx, hbx⟩ : ∃ bx, bx = w5.heap.size := ⟨_, rfl⟩
      rw [← hw6, ← hbx] at HS6
      rw [← hw6] at HB5 ⊢
      rw [← hbx]
      clear hw6 hbx y0 y1 y2 y3
      obtain ⟨f, hf⟩ : ∃ f, f = fitB m x.2 := ⟨_, rfl⟩
      have HFF := hide hf
      rw [← hf] at HMX
      clear hf
      obtain ⟨j, hj⟩ : ∃ j, j = k - 1 := ⟨_, rfl⟩
      have hjl : j < p.length := by omega
      obtain ⟨b3, o3, hA3, _, v0, v1, v2, v3⟩ := rd_st (RdE.grow HPR.out (HB1.out.trans (hbr.out.mono HB1.out.size))) hjl
      injection hA3 with hA3
      injection hA3 with e1 e2 _
      subst e1 e2
      obtain ⟨y, hy⟩ : ∃ y, y = p[j] := ⟨_, rfl⟩
      rw [← hy] at v0 v1 v2 v3
      have HS := hide (HS6.out y _ ⟨v0, v1, v2, v3⟩)
      have HCP := hide (fun W => compare4_prog y x W)
      have HWK := hide (show 0 < k → IntKind.i64.wrap ((k : Int) - 1) = (j : Int) from fun h0 => by rw [IntWalk.i64_in _ (by omega)]; omega)
      have HOK := hide (show fitB m x.2 = true → ¬ x.1 < 0 → ¬ m.slots < x.1 → ¬ m.slots < x.1 + durB m x.2 → (k = 0 ∨ cmpS y x < 0) → okP m (p.take (k + 1)) from fun q0 q1 _ q3 q4 => okP_snoc hlt HX.out hj hy hok.out (HFC.out x.2 q0) (by omega) (by omega) q4)
      clear v0 v1 v2 v3 hy hbl2 hj
      have hU : undef = Value.tuple #[] := rfl
      -- REGION
      refine wp_region_held_drew (S := (fun W => ((W.cell? ⟨w.heap.size, 0, none⟩ = some (.slice h.s m.sites.length h.sc) ∧ W.cell? ⟨w.heap.size, 1, none⟩ = some (.slice h.f m.feeds.length h.fc) ∧ W.cell? ⟨w.heap.size, 2, none⟩ = some (.slice h.r m.racks.length h.rc) ∧ W.cell? ⟨w.heap.size, 3, none⟩ = some (.slice h.m m.machs.length h.mc) ∧ W.cell? ⟨w.heap.size, 4, none⟩ = some (.slice h.l m.links.length h.lc) ∧ W.cell? ⟨w.heap.size, 5, none⟩ = some (.slice h.i m.items.length h.ic) ∧ W.cell? ⟨w.heap.size, 6, none⟩ = some (.int .i64 m.dark) ∧ W.cell? ⟨w.heap.size, 7, none⟩ = some (.int .i64 m.slots) ∧ W.cell? ⟨w.heap.size, 8, none⟩ = some (.int .i64 m.reserve) ∧ W.cell? ⟨w.heap.size, 9, none⟩ = some (.int .i64 m.failures) ∧ W.cell? ⟨w.heap.size, 10, none⟩ = some (.slice h.u m.rules.length h.uc)) ∧ W.cell? ⟨w.heap.size + 1, 0, none⟩ = some (.slice (some ⟨b2, o2, none⟩) p.length cp) ∧ (W.cell? ⟨bx, 0, none⟩ = some (.int .i64 x.1) ∧ W.cell? ⟨bx, 1, none⟩ = some (.int .i64 x.2.1) ∧ W.cell? ⟨bx, 2, none⟩ = some (.int .i64 x.2.2.1) ∧ W.cell? ⟨bx, 3, none⟩ = some (.int .i64 x.2.2.2)) ∧ W.cell? ⟨b2, o2 + j * 4, none⟩ = some (.int .i64 y.1) ∧ W.cell? ⟨b2, o2 + j * 4 + 1, none⟩ = some (.int .i64 y.2.1) ∧ W.cell? ⟨b2, o2 + j * 4 + 2, none⟩ = some (.int .i64 y.2.2.1) ∧ W.cell? ⟨b2, o2 + j * 4 + 3, none⟩ = some (.int .i64 y.2.2.2)) ∧ V27 w6 w h m (some ⟨b2, o2, none⟩) p.length cp bx x y b2 (o2 + j * 4) W)) (by kernel_rfl) (⟨V27.cells HS.out.drew, HS.out.drew⟩) (fun hHeld => ?_)
      refine wpAnyH_take (i := 0) (oi := _) (v := ?_) rfl (by kernel_rfl) (by kernel_rfl) (by kernel_rfl) (fun _ _ _ h => h) (Or.inl ⟨by rfl, ?_⟩) hHeld ?_
      rotate_left
      · intro W hSw; (try dsimp only at hSw); go_simp; try with_reducible rfl
      simp only [Act.put, List.getElem_toArray, List.getElem_cons_zero, List.setIfInBounds_toArray, List.set_cons_zero, List.set_cons_succ]
      refine wpAnyH_take (i := 1) (oi := _) (v := ?_) rfl (by kernel_rfl) (by kernel_rfl) (by kernel_rfl) (fun _ _ _ h => h) (Or.inl ⟨by rfl, ?_⟩) hHeld ?_
      rotate_left
      · intro W hSw; (try dsimp only at hSw); go_simp; try with_reducible rfl
      simp only [Act.put, List.getElem_toArray, List.getElem_cons_succ, List.getElem_cons_zero, List.setIfInBounds_toArray, List.set_cons_zero, List.set_cons_succ]
      refine wpAnyH_take (i := 2) (oi := _) (v := ?_) rfl (by kernel_rfl) (by kernel_rfl) (by kernel_rfl) (fun _ _ _ h => h) (Or.inl ⟨by rfl, ?_⟩) hHeld ?_
      rotate_left
      · intro W hSw; (try dsimp only at hSw); go_simp; try with_reducible rfl
      simp only [Act.put, List.getElem_toArray, List.getElem_cons_succ, List.getElem_cons_zero, List.setIfInBounds_toArray, List.set_cons_zero, List.set_cons_succ]
      refine wpAnyH_ready (rs := [3]) (by kernel_rfl) (by simp) ?_
      refine AllReadyH.cons rfl (fun K hK => ?_) AllReadyH.nil
      go_simp
      go_at_call 26
      (with_reducible refine (HMX.out _ (V27.b (V27.drew HS.out))).mono ?_)
      rintro e w7 ⟨rfl, hg⟩
      have c1 := V27.grow (V27.drew HS.out) hg
      clear hg
      (try dsimp only)
      refine hK.out _ _ (⟨V27.cells c1, c1⟩) (fun hHeld => ?_)
      clear hK K
      cases f
      · refine wpAnyH_take (i := 4) (oi := _) (v := .bool true) rfl (by kernel_rfl) (by kernel_rfl) (by kernel_rfl) (fun _ _ _ h => h) (Or.inl ⟨by rfl, ?_⟩) hHeld ?_
        · intro W hSw; (try dsimp only at hSw); go_simp
        simp only [Act.put, List.getElem_toArray, List.getElem_cons_succ, List.getElem_cons_zero, List.setIfInBounds_toArray, List.set_cons_zero, List.set_cons_succ]
        refine wpAnyH_take (i := 5) (oi := _) (v := ?_) rfl (by kernel_rfl) (by kernel_rfl) (by kernel_rfl) (fun _ _ _ h => h) (Or.inl ⟨by rfl, ?_⟩) hHeld ?_
        rotate_left
        · intro W hSw; (try dsimp only at hSw); go_simp; try with_reducible rfl
        simp only [Act.put, List.getElem_toArray, List.getElem_cons_succ, List.getElem_cons_zero, List.setIfInBounds_toArray, List.set_cons_zero, List.set_cons_succ]
        refine wpAnyH_take (i := 6) (oi := _) (v := _) rfl (by kernel_rfl) (by kernel_rfl) (by kernel_rfl) (fun _ _ _ h => h) (Or.inr ⟨by rfl, rfl⟩) hHeld ?_
        simp only [Act.put, List.getElem_toArray, List.getElem_cons_succ, List.getElem_cons_zero, List.setIfInBounds_toArray, List.set_cons_zero, List.set_cons_succ]
        refine wpAnyH_take (i := 7) (oi := _) (v := _) rfl (by kernel_rfl) (by kernel_rfl) (by kernel_rfl) (fun _ _ _ h => h) (Or.inr ⟨by rfl, rfl⟩) hHeld ?_
        simp only [Act.put, List.getElem_toArray, List.getElem_cons_succ, List.getElem_cons_zero, List.setIfInBounds_toArray, List.set_cons_zero, List.set_cons_succ]
        refine wpAnyH_take (i := 8) (oi := _) (v := _) rfl (by kernel_rfl) (by kernel_rfl) (by kernel_rfl) (fun _ _ _ h => h) (Or.inr ⟨by rfl, rfl⟩) hHeld ?_
        simp only [Act.put, List.getElem_toArray, List.getElem_cons_succ, List.getElem_cons_zero, List.setIfInBounds_toArray, List.set_cons_zero, List.set_cons_succ]
        refine wpAnyH_take (i := 9) (oi := _) (v := .bool true) rfl (by kernel_rfl) (by kernel_rfl) (by kernel_rfl) (fun _ _ _ h => h) (Or.inl ⟨by rfl, ?_⟩) hHeld ?_
        · intro W hSw; (try dsimp only at hSw); go_simp
        simp only [Act.put, List.getElem_toArray, List.getElem_cons_succ, List.getElem_cons_zero, List.setIfInBounds_toArray, List.set_cons_zero, List.set_cons_succ]
        refine wpAnyH_take (i := 10) (oi := _) (v := ?_) rfl (by kernel_rfl) (by kernel_rfl) (by kernel_rfl) (fun _ _ _ h => h) (Or.inl ⟨by rfl, ?_⟩) hHeld ?_
        rotate_left
        · intro W hSw; (try dsimp only at hSw); go_simp; try with_reducible rfl
        simp only [Act.put, List.getElem_toArray, List.getElem_cons_succ, List.getElem_cons_zero, List.setIfInBounds_toArray, List.set_cons_zero, List.set_cons_succ]
        refine wpAnyH_take (i := 11) (oi := _) (v := _) rfl (by kernel_rfl) (by kernel_rfl) (by kernel_rfl) (fun _ _ _ h => h) (Or.inr ⟨by rfl, rfl⟩) hHeld ?_
        simp only [Act.put, List.getElem_toArray, List.getElem_cons_succ, List.getElem_cons_zero, List.setIfInBounds_toArray, List.set_cons_zero, List.set_cons_succ]
        refine wpAnyH_take (i := 12) (oi := _) (v := _) rfl (by kernel_rfl) (by kernel_rfl) (by kernel_rfl) (fun _ _ _ h => h) (Or.inr ⟨by rfl, rfl⟩) hHeld ?_
        simp only [Act.put, List.getElem_toArray, List.getElem_cons_succ, List.getElem_cons_zero, List.setIfInBounds_toArray, List.set_cons_zero, List.set_cons_succ]
        refine wpAnyH_take (i := 13) (oi := _) (v := _) rfl (by kernel_rfl) (by kernel_rfl) (by kernel_rfl) (fun _ _ _ h => h) (Or.inr ⟨by rfl, rfl⟩) hHeld ?_
        simp only [Act.put, List.getElem_toArray, List.getElem_cons_succ, List.getElem_cons_zero, List.setIfInBounds_toArray, List.set_cons_zero, List.set_cons_succ]
        refine wpAnyH_take (i := 14) (oi := _) (v := _) rfl (by kernel_rfl) (by kernel_rfl) (by kernel_rfl) (fun _ _ _ h => h) (Or.inr ⟨by rfl, rfl⟩) hHeld ?_
        simp only [Act.put, List.getElem_toArray, List.getElem_cons_succ, List.getElem_cons_zero, List.setIfInBounds_toArray, List.set_cons_zero, List.set_cons_succ]
        refine wpAnyH_take (i := 15) (oi := _) (v := _) rfl (by kernel_rfl) (by kernel_rfl) (by kernel_rfl) (fun _ _ _ h => h) (Or.inr ⟨by rfl, rfl⟩) hHeld ?_
        simp only [Act.put, List.getElem_toArray, List.getElem_cons_succ, List.getElem_cons_zero, List.setIfInBounds_toArray, List.set_cons_zero, List.set_cons_succ]
        refine wpAnyH_take (i := 16) (oi := _) (v := .bool true) rfl (by kernel_rfl) (by kernel_rfl) (by kernel_rfl) (fun _ _ _ h => h) (Or.inl ⟨by rfl, ?_⟩) hHeld ?_
        · intro W hSw; (try dsimp only at hSw); go_simp
        simp only [Act.put, List.getElem_toArray, List.getElem_cons_succ, List.getElem_cons_zero, List.setIfInBounds_toArray, List.set_cons_zero, List.set_cons_succ]
        refine wpAnyH_take (i := 17) (oi := _) (v := ?_) rfl (by kernel_rfl) (by kernel_rfl) (by kernel_rfl) (fun _ _ _ h => h) (Or.inl ⟨by rfl, ?_⟩) hHeld ?_
        rotate_left
        · intro W hSw; (try dsimp only at hSw); go_simp; try with_reducible rfl
        simp only [Act.put, List.getElem_toArray, List.getElem_cons_succ, List.getElem_cons_zero, List.setIfInBounds_toArray, List.set_cons_zero, List.set_cons_succ]
        refine wpAnyH_take (i := 18) (oi := _) (v := _) rfl (by kernel_rfl) (by kernel_rfl) (by kernel_rfl) (fun _ _ _ h => h) (Or.inr ⟨by rfl, rfl⟩) hHeld ?_
        simp only [Act.put, List.getElem_toArray, List.getElem_cons_succ, List.getElem_cons_zero, List.setIfInBounds_toArray, List.set_cons_zero, List.set_cons_succ]
        refine wpAnyH_take (i := 19) (oi := _) (v := _) rfl (by kernel_rfl) (by kernel_rfl) (by kernel_rfl) (fun _ _ _ h => h) (Or.inr ⟨by rfl, rfl⟩) hHeld ?_
        simp only [Act.put, List.getElem_toArray, List.getElem_cons_succ, List.getElem_cons_zero, List.setIfInBounds_toArray, List.set_cons_zero, List.set_cons_succ]
        refine wpAnyH_take (i := 20) (oi := _) (v := _) rfl (by kernel_rfl) (by kernel_rfl) (by kernel_rfl) (fun _ _ _ h => h) (Or.inr ⟨by rfl, rfl⟩) hHeld ?_
        simp only [Act.put, List.getElem_toArray, List.getElem_cons_succ, List.getElem_cons_zero, List.setIfInBounds_toArray, List.set_cons_zero, List.set_cons_succ]
        refine wpAnyH_take (i := 21) (oi := _) (v := _) rfl (by kernel_rfl) (by kernel_rfl) (by kernel_rfl) (fun _ _ _ h => h) (Or.inr ⟨by rfl, rfl⟩) hHeld ?_
        simp only [Act.put, List.getElem_toArray, List.getElem_cons_succ, List.getElem_cons_zero, List.setIfInBounds_toArray, List.set_cons_zero, List.set_cons_succ]
        refine wpAnyH_take (i := 22) (oi := _) (v := _) rfl (by kernel_rfl) (by kernel_rfl) (by kernel_rfl) (fun _ _ _ h => h) (Or.inr ⟨by rfl, rfl⟩) hHeld ?_
        simp only [Act.put, List.getElem_toArray, List.getElem_cons_succ, List.getElem_cons_zero, List.setIfInBounds_toArray, List.set_cons_zero, List.set_cons_succ]
        refine wpAnyH_take (i := 23) (oi := _) (v := _) rfl (by kernel_rfl) (by kernel_rfl) (by kernel_rfl) (fun _ _ _ h => h) (Or.inr ⟨by rfl, rfl⟩) hHeld ?_
        simp only [Act.put, List.getElem_toArray, List.getElem_cons_succ, List.getElem_cons_zero, List.setIfInBounds_toArray, List.set_cons_zero, List.set_cons_succ]
        refine wpAnyH_take (i := 24) (oi := _) (v := .bool true) rfl (by kernel_rfl) (by kernel_rfl) (by kernel_rfl) (fun _ _ _ h => h) (Or.inl ⟨by rfl, ?_⟩) hHeld ?_
        · intro W hSw; (try dsimp only at hSw); go_simp
        simp only [Act.put, List.getElem_toArray, List.getElem_cons_succ, List.getElem_cons_zero, List.setIfInBounds_toArray, List.set_cons_zero, List.set_cons_succ]
        refine wpAnyH_take (i := 25) (oi := _) (v := ?_) rfl (by kernel_rfl) (by kernel_rfl) (by kernel_rfl) (fun _ _ _ h => h) (Or.inl ⟨by rfl, ?_⟩) hHeld ?_
        rotate_left
        · intro W hSw; (try dsimp only at hSw); go_simp; try with_reducible rfl
        simp only [Act.put, List.getElem_toArray, List.getElem_cons_succ, List.getElem_cons_zero, List.setIfInBounds_toArray, List.set_cons_zero, List.set_cons_succ]
        refine wpAnyH_take (i := 26) (oi := _) (v := _) rfl (by kernel_rfl) (by kernel_rfl) (by kernel_rfl) (fun _ _ _ h => h) (Or.inr ⟨by rfl, rfl⟩) hHeld ?_
        simp only [Act.put, List.getElem_toArray, List.getElem_cons_succ, List.getElem_cons_zero, List.setIfInBounds_toArray, List.set_cons_zero, List.set_cons_succ]
        refine wpAnyH_take (i := 27) (oi := _) (v := _) rfl (by kernel_rfl) (by kernel_rfl) (by kernel_rfl) (fun _ _ _ h => h) (Or.inr ⟨by rfl, rfl⟩) hHeld ?_
        simp only [Act.put, List.getElem_toArray, List.getElem_cons_succ, List.getElem_cons_zero, List.setIfInBounds_toArray, List.set_cons_zero, List.set_cons_succ]
        refine wpAnyH_take (i := 28) (oi := _) (v := _) rfl (by kernel_rfl) (by kernel_rfl) (by kernel_rfl) (fun _ _ _ h => h) (Or.inr ⟨by rfl, rfl⟩) hHeld ?_
        simp only [Act.put, List.getElem_toArray, List.getElem_cons_succ, List.getElem_cons_zero, List.setIfInBounds_toArray, List.set_cons_zero, List.set_cons_succ]
        refine wpAnyH_take (i := 29) (oi := _) (v := _) rfl (by kernel_rfl) (by kernel_rfl) (by kernel_rfl) (fun _ _ _ h => h) (Or.inr ⟨by rfl, rfl⟩) hHeld ?_
        simp only [Act.put, List.getElem_toArray, List.getElem_cons_succ, List.getElem_cons_zero, List.setIfInBounds_toArray, List.set_cons_zero, List.set_cons_succ]
        refine wpAnyH_take (i := 30) (oi := _) (v := _) rfl (by kernel_rfl) (by kernel_rfl) (by kernel_rfl) (fun _ _ _ h => h) (Or.inr ⟨by rfl, rfl⟩) hHeld ?_
        simp only [Act.put, List.getElem_toArray, List.getElem_cons_succ, List.getElem_cons_zero, List.setIfInBounds_toArray, List.set_cons_zero, List.set_cons_succ]
        refine wpAnyH_take (i := 31) (oi := _) (v := _) rfl (by kernel_rfl) (by kernel_rfl) (by kernel_rfl) (fun _ _ _ h => h) (Or.inr ⟨by rfl, rfl⟩) hHeld ?_
        simp only [Act.put, List.getElem_toArray, List.getElem_cons_succ, List.getElem_cons_zero, List.setIfInBounds_toArray, List.set_cons_zero, List.set_cons_succ]
        refine wpAnyH_take (i := 32) (oi := _) (v := _) rfl (by kernel_rfl) (by kernel_rfl) (by kernel_rfl) (fun _ _ _ h => h) (Or.inr ⟨by rfl, rfl⟩) hHeld ?_
        simp only [Act.put, List.getElem_toArray, List.getElem_cons_succ, List.getElem_cons_zero, List.setIfInBounds_toArray, List.set_cons_zero, List.set_cons_succ]
        refine wpAnyH_take (i := 33) (oi := _) (v := _) rfl (by kernel_rfl) (by kernel_rfl) (by kernel_rfl) (fun _ _ _ h => h) (Or.inr ⟨by rfl, rfl⟩) hHeld ?_
        simp only [Act.put, List.getElem_toArray, List.getElem_cons_succ, List.getElem_cons_zero, List.setIfInBounds_toArray, List.set_cons_zero, List.set_cons_succ]
        refine wpAnyH_take (i := 34) (oi := _) (v := _) rfl (by kernel_rfl) (by kernel_rfl) (by kernel_rfl) (fun _ _ _ h => h) (Or.inr ⟨by rfl, rfl⟩) hHeld ?_
        simp only [Act.put, List.getElem_toArray, List.getElem_cons_succ, List.getElem_cons_zero, List.setIfInBounds_toArray, List.set_cons_zero, List.set_cons_succ]
        refine wpAnyH_take (i := 35) (oi := _) (v := _) rfl (by kernel_rfl) (by kernel_rfl) (by kernel_rfl) (fun _ _ _ h => h) (Or.inr ⟨by rfl, rfl⟩) hHeld ?_
        simp only [Act.put, List.getElem_toArray, List.getElem_cons_succ, List.getElem_cons_zero, List.setIfInBounds_toArray, List.set_cons_zero, List.set_cons_succ]
        refine wpAnyH_take (i := 36) (oi := _) (v := _) rfl (by kernel_rfl) (by kernel_rfl) (by kernel_rfl) (fun _ _ _ h => h) (Or.inr ⟨by rfl, rfl⟩) hHeld ?_
        simp only [Act.put, List.getElem_toArray, List.getElem_cons_succ, List.getElem_cons_zero, List.setIfInBounds_toArray, List.set_cons_zero, List.set_cons_succ]
        refine wpAnyH_take (i := 37) (oi := _) (v := _) rfl (by kernel_rfl) (by kernel_rfl) (by kernel_rfl) (fun _ _ _ h => h) (Or.inr ⟨by rfl, rfl⟩) hHeld ?_
        simp only [Act.put, List.getElem_toArray, List.getElem_cons_succ, List.getElem_cons_zero, List.setIfInBounds_toArray, List.set_cons_zero, List.set_cons_succ]
        refine wpAnyH_take (i := 38) (oi := _) (v := _) rfl (by kernel_rfl) (by kernel_rfl) (by kernel_rfl) (fun _ _ _ h => h) (Or.inr ⟨by rfl, rfl⟩) hHeld ?_
        simp only [Act.put, List.getElem_toArray, List.getElem_cons_succ, List.getElem_cons_zero, List.setIfInBounds_toArray, List.set_cons_zero, List.set_cons_succ]
        refine wpAnyH_take (i := 39) (oi := _) (v := .bool true) rfl (by kernel_rfl) (by kernel_rfl) (by kernel_rfl) (fun _ _ _ h => h) (Or.inl ⟨by rfl, ?_⟩) hHeld ?_
        · intro W hSw; (try dsimp only at hSw); go_simp
        simp only [Act.put, List.getElem_toArray, List.getElem_cons_succ, List.getElem_cons_zero, List.setIfInBounds_toArray, List.set_cons_zero, List.set_cons_succ]
        refine wpAnyH_done (by kernel_rfl) ?_ _
        go_wp2_with fail
        go_ret
        exact ⟨rfl, V27.b c1⟩
      · refine wpAnyH_take (i := 4) (oi := _) (v := .bool false) rfl (by kernel_rfl) (by kernel_rfl) (by kernel_rfl) (fun _ _ _ h => h) (Or.inl ⟨by rfl, ?_⟩) hHeld ?_
        · intro W hSw; (try dsimp only at hSw); go_simp
        simp only [Act.put, List.getElem_toArray, List.getElem_cons_succ, List.getElem_cons_zero, List.setIfInBounds_toArray, List.set_cons_zero, List.set_cons_succ]
        refine wpAnyH_take (i := 5) (oi := _) (v := ?_) rfl (by kernel_rfl) (by kernel_rfl) (by kernel_rfl) (fun _ _ _ h => h) (Or.inl ⟨by rfl, ?_⟩) hHeld ?_
        rotate_left
        · intro W hSw; (try dsimp only at hSw); go_simp; try with_reducible rfl
        simp only [Act.put, List.getElem_toArray, List.getElem_cons_succ, List.getElem_cons_zero, List.setIfInBounds_toArray, List.set_cons_zero, List.set_cons_succ]
        refine wpAnyH_take (i := 6) (oi := _) (v := ?_) rfl (by kernel_rfl) (by kernel_rfl) (by kernel_rfl) (fun _ _ _ h => h) (Or.inl ⟨by rfl, ?_⟩) hHeld ?_
        rotate_left
        · intro W hSw; (try dsimp only at hSw); go_simp; try with_reducible rfl
        simp only [Act.put, List.getElem_toArray, List.getElem_cons_succ, List.getElem_cons_zero, List.setIfInBounds_toArray, List.set_cons_zero, List.set_cons_succ]
        refine wpAnyH_take (i := 7) (oi := _) (v := ?_) rfl (by kernel_rfl) (by kernel_rfl) (by kernel_rfl) (fun _ _ _ h => h) (Or.inl ⟨by rfl, ?_⟩) hHeld ?_
        rotate_left
        · intro W hSw; (try dsimp only at hSw); go_simp; try with_reducible rfl
        simp only [Act.put, List.getElem_toArray, List.getElem_cons_succ, List.getElem_cons_zero, List.setIfInBounds_toArray, List.set_cons_zero, List.set_cons_succ]
        by_cases g2 : x.1 < 0
        · refine wpAnyH_take (i := 8) (oi := _) (v := .bool true) rfl (by kernel_rfl) (by kernel_rfl) (by kernel_rfl) (fun _ _ _ h => h) (Or.inl ⟨by rfl, ?_⟩) hHeld ?_
          · intro W hSw; (try dsimp only at hSw); go_simp
          simp only [Act.put, List.getElem_toArray, List.getElem_cons_succ, List.getElem_cons_zero, List.setIfInBounds_toArray, List.set_cons_zero, List.set_cons_succ]
          refine wpAnyH_take (i := 9) (oi := _) (v := .bool true) rfl (by kernel_rfl) (by kernel_rfl) (by kernel_rfl) (fun _ _ _ h => h) (Or.inl ⟨by rfl, ?_⟩) hHeld ?_
          · intro W hSw; (try dsimp only at hSw); go_simp
          simp only [Act.put, List.getElem_toArray, List.getElem_cons_succ, List.getElem_cons_zero, List.setIfInBounds_toArray, List.set_cons_zero, List.set_cons_succ]
          refine wpAnyH_take (i := 10) (oi := _) (v := ?_) rfl (by kernel_rfl) (by kernel_rfl) (by kernel_rfl) (fun _ _ _ h => h) (Or.inl ⟨by rfl, ?_⟩) hHeld ?_
          rotate_left
          · intro W hSw; (try dsimp only at hSw); go_simp; try with_reducible rfl
          simp only [Act.put, List.getElem_toArray, List.getElem_cons_succ, List.getElem_cons_zero, List.setIfInBounds_toArray, List.set_cons_zero, List.set_cons_succ]
          refine wpAnyH_take (i := 11) (oi := _) (v := _) rfl (by kernel_rfl) (by kernel_rfl) (by kernel_rfl) (fun _ _ _ h => h) (Or.inr ⟨by rfl, rfl⟩) hHeld ?_
          simp only [Act.put, List.getElem_toArray, List.getElem_cons_succ, List.getElem_cons_zero, List.setIfInBounds_toArray, List.set_cons_zero, List.set_cons_succ]
          refine wpAnyH_take (i := 12) (oi := _) (v := _) rfl (by kernel_rfl) (by kernel_rfl) (by kernel_rfl) (fun _ _ _ h => h) (Or.inr ⟨by rfl, rfl⟩) hHeld ?_
          simp only [Act.put, List.getElem_toArray, List.getElem_cons_succ, List.getElem_cons_zero, List.setIfInBounds_toArray, List.set_cons_zero, List.set_cons_succ]
          refine wpAnyH_take (i := 13) (oi := _) (v := _) rfl (by kernel_rfl) (by kernel_rfl) (by kernel_rfl) (fun _ _ _ h => h) (Or.inr ⟨by rfl, rfl⟩) hHeld ?_
          simp only [Act.put, List.getElem_toArray, List.getElem_cons_succ, List.getElem_cons_zero, List.setIfInBounds_toArray, List.set_cons_zero, List.set_cons_succ]
          refine wpAnyH_take (i := 14) (oi := _) (v := _) rfl (by kernel_rfl) (by kernel_rfl) (by kernel_rfl) (fun _ _ _ h => h) (Or.inr ⟨by rfl, rfl⟩) hHeld ?_
          simp only [Act.put, List.getElem_toArray, List.getElem_cons_succ, List.getElem_cons_zero, List.setIfInBounds_toArray, List.set_cons_zero, List.set_cons_succ]
          refine wpAnyH_take (i := 15) (oi := _) (v := _) rfl (by kernel_rfl) (by kernel_rfl) (by kernel_rfl) (fun _ _ _ h => h) (Or.inr ⟨by rfl, rfl⟩) hHeld ?_
          simp only [Act.put, List.getElem_toArray, List.getElem_cons_succ, List.getElem_cons_zero, List.setIfInBounds_toArray, List.set_cons_zero, List.set_cons_succ]
          refine wpAnyH_take (i := 16) (oi := _) (v := .bool true) rfl (by kernel_rfl) (by kernel_rfl) (by kernel_rfl) (fun _ _ _ h => h) (Or.inl ⟨by rfl, ?_⟩) hHeld ?_
          · intro W hSw; (try dsimp only at hSw); go_simp
          simp only [Act.put, List.getElem_toArray, List.getElem_cons_succ, List.getElem_cons_zero, List.setIfInBounds_toArray, List.set_cons_zero, List.set_cons_succ]
          refine wpAnyH_take (i := 17) (oi := _) (v := ?_) rfl (by kernel_rfl) (by kernel_rfl) (by kernel_rfl) (fun _ _ _ h => h) (Or.inl ⟨by rfl, ?_⟩) hHeld ?_
          rotate_left
          · intro W hSw; (try dsimp only at hSw); go_simp; try with_reducible rfl
          simp only [Act.put, List.getElem_toArray, List.getElem_cons_succ, List.getElem_cons_zero, List.setIfInBounds_toArray, List.set_cons_zero, List.set_cons_succ]
          refine wpAnyH_take (i := 18) (oi := _) (v := _) rfl (by kernel_rfl) (by kernel_rfl) (by kernel_rfl) (fun _ _ _ h => h) (Or.inr ⟨by rfl, rfl⟩) hHeld ?_
          simp only [Act.put, List.getElem_toArray, List.getElem_cons_succ, List.getElem_cons_zero, List.setIfInBounds_toArray, List.set_cons_zero, List.set_cons_succ]
          refine wpAnyH_take (i := 19) (oi := _) (v := _) rfl (by kernel_rfl) (by kernel_rfl) (by kernel_rfl) (fun _ _ _ h => h) (Or.inr ⟨by rfl, rfl⟩) hHeld ?_
          simp only [Act.put, List.getElem_toArray, List.getElem_cons_succ, List.getElem_cons_zero, List.setIfInBounds_toArray, List.set_cons_zero, List.set_cons_succ]
          refine wpAnyH_take (i := 20) (oi := _) (v := _) rfl (by kernel_rfl) (by kernel_rfl) (by kernel_rfl) (fun _ _ _ h => h) (Or.inr ⟨by rfl, rfl⟩) hHeld ?_
          simp only [Act.put, List.getElem_toArray, List.getElem_cons_succ, List.getElem_cons_zero, List.setIfInBounds_toArray, List.set_cons_zero, List.set_cons_succ]
          refine wpAnyH_take (i := 21) (oi := _) (v := _) rfl (by kernel_rfl) (by kernel_rfl) (by kernel_rfl) (fun _ _ _ h => h) (Or.inr ⟨by rfl, rfl⟩) hHeld ?_
          simp only [Act.put, List.getElem_toArray, List.getElem_cons_succ, List.getElem_cons_zero, List.setIfInBounds_toArray, List.set_cons_zero, List.set_cons_succ]
          refine wpAnyH_take (i := 22) (oi := _) (v := _) rfl (by kernel_rfl) (by kernel_rfl) (by kernel_rfl) (fun _ _ _ h => h) (Or.inr ⟨by rfl, rfl⟩) hHeld ?_
          simp only [Act.put, List.getElem_toArray, List.getElem_cons_succ, List.getElem_cons_zero, List.setIfInBounds_toArray, List.set_cons_zero, List.set_cons_succ]
          refine wpAnyH_take (i := 23) (oi := _) (v := _) rfl (by kernel_rfl) (by kernel_rfl) (by kernel_rfl) (fun _ _ _ h => h) (Or.inr ⟨by rfl, rfl⟩) hHeld ?_
          simp only [Act.put, List.getElem_toArray, List.getElem_cons_succ, List.getElem_cons_zero, List.setIfInBounds_toArray, List.set_cons_zero, List.set_cons_succ]
          refine wpAnyH_take (i := 24) (oi := _) (v := .bool true) rfl (by kernel_rfl) (by kernel_rfl) (by kernel_rfl) (fun _ _ _ h => h) (Or.inl ⟨by rfl, ?_⟩) hHeld ?_
          · intro W hSw; (try dsimp only at hSw); go_simp
          simp only [Act.put, List.getElem_toArray, List.getElem_cons_succ, List.getElem_cons_zero, List.setIfInBounds_toArray, List.set_cons_zero, List.set_cons_succ]
          refine wpAnyH_take (i := 25) (oi := _) (v := ?_) rfl (by kernel_rfl) (by kernel_rfl) (by kernel_rfl) (fun _ _ _ h => h) (Or.inl ⟨by rfl, ?_⟩) hHeld ?_
          rotate_left
          · intro W hSw; (try dsimp only at hSw); go_simp; try with_reducible rfl
          simp only [Act.put, List.getElem_toArray, List.getElem_cons_succ, List.getElem_cons_zero, List.setIfInBounds_toArray, List.set_cons_zero, List.set_cons_succ]
          refine wpAnyH_take (i := 26) (oi := _) (v := _) rfl (by kernel_rfl) (by kernel_rfl) (by kernel_rfl) (fun _ _ _ h => h) (Or.inr ⟨by rfl, rfl⟩) hHeld ?_
          simp only [Act.put, List.getElem_toArray, List.getElem_cons_succ, List.getElem_cons_zero, List.setIfInBounds_toArray, List.set_cons_zero, List.set_cons_succ]
          refine wpAnyH_take (i := 27) (oi := _) (v := _) rfl (by kernel_rfl) (by kernel_rfl) (by kernel_rfl) (fun _ _ _ h => h) (Or.inr ⟨by rfl, rfl⟩) hHeld ?_
          simp only [Act.put, List.getElem_toArray, List.getElem_cons_succ, List.getElem_cons_zero, List.setIfInBounds_toArray, List.set_cons_zero, List.set_cons_succ]
          refine wpAnyH_take (i := 28) (oi := _) (v := _) rfl (by kernel_rfl) (by kernel_rfl) (by kernel_rfl) (fun _ _ _ h => h) (Or.inr ⟨by rfl, rfl⟩) hHeld ?_
          simp only [Act.put, List.getElem_toArray, List.getElem_cons_succ, List.getElem_cons_zero, List.setIfInBounds_toArray, List.set_cons_zero, List.set_cons_succ]
          refine wpAnyH_take (i := 29) (oi := _) (v := _) rfl (by kernel_rfl) (by kernel_rfl) (by kernel_rfl) (fun _ _ _ h => h) (Or.inr ⟨by rfl, rfl⟩) hHeld ?_
          simp only [Act.put, List.getElem_toArray, List.getElem_cons_succ, List.getElem_cons_zero, List.setIfInBounds_toArray, List.set_cons_zero, List.set_cons_succ]
          refine wpAnyH_take (i := 30) (oi := _) (v := _) rfl (by kernel_rfl) (by kernel_rfl) (by kernel_rfl) (fun _ _ _ h => h) (Or.inr ⟨by rfl, rfl⟩) hHeld ?_
          simp only [Act.put, List.getElem_toArray, List.getElem_cons_succ, List.getElem_cons_zero, List.setIfInBounds_toArray, List.set_cons_zero, List.set_cons_succ]
          refine wpAnyH_take (i := 31) (oi := _) (v := _) rfl (by kernel_rfl) (by kernel_rfl) (by kernel_rfl) (fun _ _ _ h => h) (Or.inr ⟨by rfl, rfl⟩) hHeld ?_
          simp only [Act.put, List.getElem_toArray, List.getElem_cons_succ, List.getElem_cons_zero, List.setIfInBounds_toArray, List.set_cons_zero, List.set_cons_succ]
          refine wpAnyH_take (i := 32) (oi := _) (v := _) rfl (by kernel_rfl) (by kernel_rfl) (by kernel_rfl) (fun _ _ _ h => h) (Or.inr ⟨by rfl, rfl⟩) hHeld ?_
          simp only [Act.put, List.getElem_toArray, List.getElem_cons_succ, List.getElem_cons_zero, List.setIfInBounds_toArray, List.set_cons_zero, List.set_cons_succ]
          refine wpAnyH_take (i := 33) (oi := _) (v := _) rfl (by kernel_rfl) (by kernel_rfl) (by kernel_rfl) (fun _ _ _ h => h) (Or.inr ⟨by rfl, rfl⟩) hHeld ?_
          simp only [Act.put, List.getElem_toArray, List.getElem_cons_succ, List.getElem_cons_zero, List.setIfInBounds_toArray, List.set_cons_zero, List.set_cons_succ]
          refine wpAnyH_take (i := 34) (oi := _) (v := _) rfl (by kernel_rfl) (by kernel_rfl) (by kernel_rfl) (fun _ _ _ h => h) (Or.inr ⟨by rfl, rfl⟩) hHeld ?_
          simp only [Act.put, List.getElem_toArray, List.getElem_cons_succ, List.getElem_cons_zero, List.setIfInBounds_toArray, List.set_cons_zero, List.set_cons_succ]
          refine wpAnyH_take (i := 35) (oi := _) (v := _) rfl (by kernel_rfl) (by kernel_rfl) (by kernel_rfl) (fun _ _ _ h => h) (Or.inr ⟨by rfl, rfl⟩) hHeld ?_
          simp only [Act.put, List.getElem_toArray, List.getElem_cons_succ, List.getElem_cons_zero, List.setIfInBounds_toArray, List.set_cons_zero, List.set_cons_succ]
          refine wpAnyH_take (i := 36) (oi := _) (v := _) rfl (by kernel_rfl) (by kernel_rfl) (by kernel_rfl) (fun _ _ _ h => h) (Or.inr ⟨by rfl, rfl⟩) hHeld ?_
          simp only [Act.put, List.getElem_toArray, List.getElem_cons_succ, List.getElem_cons_zero, List.setIfInBounds_toArray, List.set_cons_zero, List.set_cons_succ]
          refine wpAnyH_take (i := 37) (oi := _) (v := _) rfl (by kernel_rfl) (by kernel_rfl) (by kernel_rfl) (fun _ _ _ h => h) (Or.inr ⟨by rfl, rfl⟩) hHeld ?_
          simp only [Act.put, List.getElem_toArray, List.getElem_cons_succ, List.getElem_cons_zero, List.setIfInBounds_toArray, List.set_cons_zero, List.set_cons_succ]
          refine wpAnyH_take (i := 38) (oi := _) (v := _) rfl (by kernel_rfl) (by kernel_rfl) (by kernel_rfl) (fun _ _ _ h => h) (Or.inr ⟨by rfl, rfl⟩) hHeld ?_
          simp only [Act.put, List.getElem_toArray, List.getElem_cons_succ, List.getElem_cons_zero, List.setIfInBounds_toArray, List.set_cons_zero, List.set_cons_succ]
          refine wpAnyH_take (i := 39) (oi := _) (v := .bool true) rfl (by kernel_rfl) (by kernel_rfl) (by kernel_rfl) (fun _ _ _ h => h) (Or.inl ⟨by rfl, ?_⟩) hHeld ?_
          · intro W hSw; (try dsimp only at hSw); go_simp
          simp only [Act.put, List.getElem_toArray, List.getElem_cons_succ, List.getElem_cons_zero, List.setIfInBounds_toArray, List.set_cons_zero, List.set_cons_succ]
          refine wpAnyH_done (by kernel_rfl) ?_ _
          go_wp2_with fail
          go_ret
          exact ⟨rfl, V27.b c1⟩
        · refine wpAnyH_take (i := 8) (oi := _) (v := .bool false) rfl (by kernel_rfl) (by kernel_rfl) (by kernel_rfl) (fun _ _ _ h => h) (Or.inl ⟨by rfl, ?_⟩) hHeld ?_
          · intro W hSw; (try dsimp only at hSw); go_simp
          simp only [Act.put, List.getElem_toArray, List.getElem_cons_succ, List.getElem_cons_zero, List.setIfInBounds_toArray, List.set_cons_zero, List.set_cons_succ]
          refine wpAnyH_take (i := 9) (oi := _) (v := .bool false) rfl (by kernel_rfl) (by kernel_rfl) (by kernel_rfl) (fun _ _ _ h => h) (Or.inl ⟨by rfl, ?_⟩) hHeld ?_
          · intro W hSw; (try dsimp only at hSw); go_simp
          simp only [Act.put, List.getElem_toArray, List.getElem_cons_succ, List.getElem_cons_zero, List.setIfInBounds_toArray, List.set_cons_zero, List.set_cons_succ]
          refine wpAnyH_take (i := 10) (oi := _) (v := ?_) rfl (by kernel_rfl) (by kernel_rfl) (by kernel_rfl) (fun _ _ _ h => h) (Or.inl ⟨by rfl, ?_⟩) hHeld ?_
          rotate_left
          · intro W hSw; (try dsimp only at hSw); go_simp; try with_reducible rfl
          simp only [Act.put, List.getElem_toArray, List.getElem_cons_succ, List.getElem_cons_zero, List.setIfInBounds_toArray, List.set_cons_zero, List.set_cons_succ]
          refine wpAnyH_take (i := 11) (oi := _) (v := ?_) rfl (by kernel_rfl) (by kernel_rfl) (by kernel_rfl) (fun _ _ _ h => h) (Or.inl ⟨by rfl, ?_⟩) hHeld ?_
          rotate_left
          · intro W hSw; (try dsimp only at hSw); go_simp; try with_reducible rfl
          simp only [Act.put, List.getElem_toArray, List.getElem_cons_succ, List.getElem_cons_zero, List.setIfInBounds_toArray, List.set_cons_zero, List.set_cons_succ]
          refine wpAnyH_take (i := 12) (oi := _) (v := ?_) rfl (by kernel_rfl) (by kernel_rfl) (by kernel_rfl) (fun _ _ _ h => h) (Or.inl ⟨by rfl, ?_⟩) hHeld ?_
          rotate_left
          · intro W hSw; (try dsimp only at hSw); go_simp; try with_reducible rfl
          simp only [Act.put, List.getElem_toArray, List.getElem_cons_succ, List.getElem_cons_zero, List.setIfInBounds_toArray, List.set_cons_zero, List.set_cons_succ]
          refine wpAnyH_take (i := 13) (oi := _) (v := ?_) rfl (by kernel_rfl) (by kernel_rfl) (by kernel_rfl) (fun _ _ _ h => h) (Or.inl ⟨by rfl, ?_⟩) hHeld ?_
          rotate_left
          · intro W hSw; (try dsimp only at hSw); go_simp; try with_reducible rfl
          simp only [Act.put, List.getElem_toArray, List.getElem_cons_succ, List.getElem_cons_zero, List.setIfInBounds_toArray, List.set_cons_zero, List.set_cons_succ]
          refine wpAnyH_take (i := 14) (oi := _) (v := ?_) rfl (by kernel_rfl) (by kernel_rfl) (by kernel_rfl) (fun _ _ _ h => h) (Or.inl ⟨by rfl, ?_⟩) hHeld ?_
          rotate_left
          · intro W hSw; (try dsimp only at hSw); go_simp; try with_reducible rfl
          simp only [Act.put, List.getElem_toArray, List.getElem_cons_succ, List.getElem_cons_zero, List.setIfInBounds_toArray, List.set_cons_zero, List.set_cons_succ]
          by_cases g3 : m.slots < x.1
          · refine wpAnyH_take (i := 15) (oi := _) (v := .bool true) rfl (by kernel_rfl) (by kernel_rfl) (by kernel_rfl) (fun _ _ _ h => h) (Or.inl ⟨by rfl, ?_⟩) hHeld ?_
            · intro W hSw; (try dsimp only at hSw); go_simp
            simp only [Act.put, List.getElem_toArray, List.getElem_cons_succ, List.getElem_cons_zero, List.setIfInBounds_toArray, List.set_cons_zero, List.set_cons_succ]
            refine wpAnyH_take (i := 16) (oi := _) (v := .bool true) rfl (by kernel_rfl) (by kernel_rfl) (by kernel_rfl) (fun _ _ _ h => h) (Or.inl ⟨by rfl, ?_⟩) hHeld ?_
            · intro W hSw; (try dsimp only at hSw); go_simp
            simp only [Act.put, List.getElem_toArray, List.getElem_cons_succ, List.getElem_cons_zero, List.setIfInBounds_toArray, List.set_cons_zero, List.set_cons_succ]
            refine wpAnyH_take (i := 17) (oi := _) (v := ?_) rfl (by kernel_rfl) (by kernel_rfl) (by kernel_rfl) (fun _ _ _ h => h) (Or.inl ⟨by rfl, ?_⟩) hHeld ?_
            rotate_left
            · intro W hSw; (try dsimp only at hSw); go_simp; try with_reducible rfl
            simp only [Act.put, List.getElem_toArray, List.getElem_cons_succ, List.getElem_cons_zero, List.setIfInBounds_toArray, List.set_cons_zero, List.set_cons_succ]
            refine wpAnyH_take (i := 18) (oi := _) (v := _) rfl (by kernel_rfl) (by kernel_rfl) (by kernel_rfl) (fun _ _ _ h => h) (Or.inr ⟨by rfl, rfl⟩) hHeld ?_
            simp only [Act.put, List.getElem_toArray, List.getElem_cons_succ, List.getElem_cons_zero, List.setIfInBounds_toArray, List.set_cons_zero, List.set_cons_succ]
            refine wpAnyH_take (i := 19) (oi := _) (v := _) rfl (by kernel_rfl) (by kernel_rfl) (by kernel_rfl) (fun _ _ _ h => h) (Or.inr ⟨by rfl, rfl⟩) hHeld ?_
            simp only [Act.put, List.getElem_toArray, List.getElem_cons_succ, List.getElem_cons_zero, List.setIfInBounds_toArray, List.set_cons_zero, List.set_cons_succ]
            refine wpAnyH_take (i := 20) (oi := _) (v := _) rfl (by kernel_rfl) (by kernel_rfl) (by kernel_rfl) (fun _ _ _ h => h) (Or.inr ⟨by rfl, rfl⟩) hHeld ?_
            simp only [Act.put, List.getElem_toArray, List.getElem_cons_succ, List.getElem_cons_zero, List.setIfInBounds_toArray, List.set_cons_zero, List.set_cons_succ]
            refine wpAnyH_take (i := 21) (oi := _) (v := _) rfl (by kernel_rfl) (by kernel_rfl) (by kernel_rfl) (fun _ _ _ h => h) (Or.inr ⟨by rfl, rfl⟩) hHeld ?_
            simp only [Act.put, List.getElem_toArray, List.getElem_cons_succ, List.getElem_cons_zero, List.setIfInBounds_toArray, List.set_cons_zero, List.set_cons_succ]
            refine wpAnyH_take (i := 22) (oi := _) (v := _) rfl (by kernel_rfl) (by kernel_rfl) (by kernel_rfl) (fun _ _ _ h => h) (Or.inr ⟨by rfl, rfl⟩) hHeld ?_
            simp only [Act.put, List.getElem_toArray, List.getElem_cons_succ, List.getElem_cons_zero, List.setIfInBounds_toArray, List.set_cons_zero, List.set_cons_succ]
            refine wpAnyH_take (i := 23) (oi := _) (v := _) rfl (by kernel_rfl) (by kernel_rfl) (by kernel_rfl) (fun _ _ _ h => h) (Or.inr ⟨by rfl, rfl⟩) hHeld ?_
            simp only [Act.put, List.getElem_toArray, List.getElem_cons_succ, List.getElem_cons_zero, List.setIfInBounds_toArray, List.set_cons_zero, List.set_cons_succ]
            refine wpAnyH_take (i := 24) (oi := _) (v := .bool true) rfl (by kernel_rfl) (by kernel_rfl) (by kernel_rfl) (fun _ _ _ h => h) (Or.inl ⟨by rfl, ?_⟩) hHeld ?_
            · intro W hSw; (try dsimp only at hSw); go_simp
            simp only [Act.put, List.getElem_toArray, List.getElem_cons_succ, List.getElem_cons_zero, List.setIfInBounds_toArray, List.set_cons_zero, List.set_cons_succ]
            refine wpAnyH_take (i := 25) (oi := _) (v := ?_) rfl (by kernel_rfl) (by kernel_rfl) (by kernel_rfl) (fun _ _ _ h => h) (Or.inl ⟨by rfl, ?_⟩) hHeld ?_
            rotate_left
            · intro W hSw; (try dsimp only at hSw); go_simp; try with_reducible rfl
            simp only [Act.put, List.getElem_toArray, List.getElem_cons_succ, List.getElem_cons_zero, List.setIfInBounds_toArray, List.set_cons_zero, List.set_cons_succ]
            refine wpAnyH_take (i := 26) (oi := _) (v := _) rfl (by kernel_rfl) (by kernel_rfl) (by kernel_rfl) (fun _ _ _ h => h) (Or.inr ⟨by rfl, rfl⟩) hHeld ?_
            simp only [Act.put, List.getElem_toArray, List.getElem_cons_succ, List.getElem_cons_zero, List.setIfInBounds_toArray, List.set_cons_zero, List.set_cons_succ]
            refine wpAnyH_take (i := 27) (oi := _) (v := _) rfl (by kernel_rfl) (by kernel_rfl) (by kernel_rfl) (fun _ _ _ h => h) (Or.inr ⟨by rfl, rfl⟩) hHeld ?_
            simp only [Act.put, List.getElem_toArray, List.getElem_cons_succ, List.getElem_cons_zero, List.setIfInBounds_toArray, List.set_cons_zero, List.set_cons_succ]
            refine wpAnyH_take (i := 28) (oi := _) (v := _) rfl (by kernel_rfl) (by kernel_rfl) (by kernel_rfl) (fun _ _ _ h => h) (Or.inr ⟨by rfl, rfl⟩) hHeld ?_
            simp only [Act.put, List.getElem_toArray, List.getElem_cons_succ, List.getElem_cons_zero, List.setIfInBounds_toArray, List.set_cons_zero, List.set_cons_succ]
            refine wpAnyH_take (i := 29) (oi := _) (v := _) rfl (by kernel_rfl) (by kernel_rfl) (by kernel_rfl) (fun _ _ _ h => h) (Or.inr ⟨by rfl, rfl⟩) hHeld ?_
            simp only [Act.put, List.getElem_toArray, List.getElem_cons_succ, List.getElem_cons_zero, List.setIfInBounds_toArray, List.set_cons_zero, List.set_cons_succ]
            refine wpAnyH_take (i := 30) (oi := _) (v := _) rfl (by kernel_rfl) (by kernel_rfl) (by kernel_rfl) (fun _ _ _ h => h) (Or.inr ⟨by rfl, rfl⟩) hHeld ?_
            simp only [Act.put, List.getElem_toArray, List.getElem_cons_succ, List.getElem_cons_zero, List.setIfInBounds_toArray, List.set_cons_zero, List.set_cons_succ]
            refine wpAnyH_take (i := 31) (oi := _) (v := _) rfl (by kernel_rfl) (by kernel_rfl) (by kernel_rfl) (fun _ _ _ h => h) (Or.inr ⟨by rfl, rfl⟩) hHeld ?_
            simp only [Act.put, List.getElem_toArray, List.getElem_cons_succ, List.getElem_cons_zero, List.setIfInBounds_toArray, List.set_cons_zero, List.set_cons_succ]
            refine wpAnyH_take (i := 32) (oi := _) (v := _) rfl (by kernel_rfl) (by kernel_rfl) (by kernel_rfl) (fun _ _ _ h => h) (Or.inr ⟨by rfl, rfl⟩) hHeld ?_
            simp only [Act.put, List.getElem_toArray, List.getElem_cons_succ, List.getElem_cons_zero, List.setIfInBounds_toArray, List.set_cons_zero, List.set_cons_succ]
            refine wpAnyH_take (i := 33) (oi := _) (v := _) rfl (by kernel_rfl) (by kernel_rfl) (by kernel_rfl) (fun _ _ _ h => h) (Or.inr ⟨by rfl, rfl⟩) hHeld ?_
            simp only [Act.put, List.getElem_toArray, List.getElem_cons_succ, List.getElem_cons_zero, List.setIfInBounds_toArray, List.set_cons_zero, List.set_cons_succ]
            refine wpAnyH_take (i := 34) (oi := _) (v := _) rfl (by kernel_rfl) (by kernel_rfl) (by kernel_rfl) (fun _ _ _ h => h) (Or.inr ⟨by rfl, rfl⟩) hHeld ?_
            simp only [Act.put, List.getElem_toArray, List.getElem_cons_succ, List.getElem_cons_zero, List.setIfInBounds_toArray, List.set_cons_zero, List.set_cons_succ]
            refine wpAnyH_take (i := 35) (oi := _) (v := _) rfl (by kernel_rfl) (by kernel_rfl) (by kernel_rfl) (fun _ _ _ h => h) (Or.inr ⟨by rfl, rfl⟩) hHeld ?_
            simp only [Act.put, List.getElem_toArray, List.getElem_cons_succ, List.getElem_cons_zero, List.setIfInBounds_toArray, List.set_cons_zero, List.set_cons_succ]
            refine wpAnyH_take (i := 36) (oi := _) (v := _) rfl (by kernel_rfl) (by kernel_rfl) (by kernel_rfl) (fun _ _ _ h => h) (Or.inr ⟨by rfl, rfl⟩) hHeld ?_
            simp only [Act.put, List.getElem_toArray, List.getElem_cons_succ, List.getElem_cons_zero, List.setIfInBounds_toArray, List.set_cons_zero, List.set_cons_succ]
            refine wpAnyH_take (i := 37) (oi := _) (v := _) rfl (by kernel_rfl) (by kernel_rfl) (by kernel_rfl) (fun _ _ _ h => h) (Or.inr ⟨by rfl, rfl⟩) hHeld ?_
            simp only [Act.put, List.getElem_toArray, List.getElem_cons_succ, List.getElem_cons_zero, List.setIfInBounds_toArray, List.set_cons_zero, List.set_cons_succ]
            refine wpAnyH_take (i := 38) (oi := _) (v := _) rfl (by kernel_rfl) (by kernel_rfl) (by kernel_rfl) (fun _ _ _ h => h) (Or.inr ⟨by rfl, rfl⟩) hHeld ?_
            simp only [Act.put, List.getElem_toArray, List.getElem_cons_succ, List.getElem_cons_zero, List.setIfInBounds_toArray, List.set_cons_zero, List.set_cons_succ]
            refine wpAnyH_take (i := 39) (oi := _) (v := .bool true) rfl (by kernel_rfl) (by kernel_rfl) (by kernel_rfl) (fun _ _ _ h => h) (Or.inl ⟨by rfl, ?_⟩) hHeld ?_
            · intro W hSw; (try dsimp only at hSw); go_simp
            simp only [Act.put, List.getElem_toArray, List.getElem_cons_succ, List.getElem_cons_zero, List.setIfInBounds_toArray, List.set_cons_zero, List.set_cons_succ]
            refine wpAnyH_done (by kernel_rfl) ?_ _
            go_wp2_with fail
            go_ret
            exact ⟨rfl, V27.b c1⟩
          · have HE := hide (HEX.out HFF.out.symm (by omega) (by have := HSL.out; omega))
            refine wpAnyH_take (i := 15) (oi := _) (v := .bool false) rfl (by kernel_rfl) (by kernel_rfl) (by kernel_rfl) (fun _ _ _ h => h) (Or.inl ⟨by rfl, ?_⟩) hHeld ?_
            · intro W hSw; (try dsimp only at hSw); go_simp
            simp only [Act.put, List.getElem_toArray, List.getElem_cons_succ, List.getElem_cons_zero, List.setIfInBounds_toArray, List.set_cons_zero, List.set_cons_succ]
            refine wpAnyH_take (i := 16) (oi := _) (v := .bool false) rfl (by kernel_rfl) (by kernel_rfl) (by kernel_rfl) (fun _ _ _ h => h) (Or.inl ⟨by rfl, ?_⟩) hHeld ?_
            · intro W hSw; (try dsimp only at hSw); go_simp
            simp only [Act.put, List.getElem_toArray, List.getElem_cons_succ, List.getElem_cons_zero, List.setIfInBounds_toArray, List.set_cons_zero, List.set_cons_succ]
            refine wpAnyH_take (i := 17) (oi := _) (v := ?_) rfl (by kernel_rfl) (by kernel_rfl) (by kernel_rfl) (fun _ _ _ h => h) (Or.inl ⟨by rfl, ?_⟩) hHeld ?_
            rotate_left
            · intro W hSw; (try dsimp only at hSw); go_simp; try with_reducible rfl
            simp only [Act.put, List.getElem_toArray, List.getElem_cons_succ, List.getElem_cons_zero, List.setIfInBounds_toArray, List.set_cons_zero, List.set_cons_succ]
            refine wpAnyH_take (i := 18) (oi := _) (v := ?_) rfl (by kernel_rfl) (by kernel_rfl) (by kernel_rfl) (fun _ _ _ h => h) (Or.inl ⟨by rfl, ?_⟩) hHeld ?_
            rotate_left
            · intro W hSw; (try dsimp only at hSw); go_simp; try with_reducible rfl
            simp only [Act.put, List.getElem_toArray, List.getElem_cons_succ, List.getElem_cons_zero, List.setIfInBounds_toArray, List.set_cons_zero, List.set_cons_succ]
            refine wpAnyH_take (i := 19) (oi := _) (v := ?_) rfl (by kernel_rfl) (by kernel_rfl) (by kernel_rfl) (fun _ _ _ h => h) (Or.inl ⟨by rfl, ?_⟩) hHeld ?_
            rotate_left
            · intro W hSw; (try dsimp only at hSw); go_simp; try with_reducible rfl
            simp only [Act.put, List.getElem_toArray, List.getElem_cons_succ, List.getElem_cons_zero, List.setIfInBounds_toArray, List.set_cons_zero, List.set_cons_succ]
            refine wpAnyH_take (i := 21) (oi := _) (v := ?_) rfl (by kernel_rfl) (by kernel_rfl) (by kernel_rfl) (fun _ _ _ h => h) (Or.inl ⟨by rfl, ?_⟩) hHeld ?_
            rotate_left
            · intro W hSw; (try dsimp only at hSw); go_simp; try with_reducible rfl
            simp only [Act.put, List.getElem_toArray, List.getElem_cons_succ, List.getElem_cons_zero, List.setIfInBounds_toArray, List.set_cons_zero, List.set_cons_succ]
            refine wpAnyH_take (i := 22) (oi := _) (v := ?_) rfl (by kernel_rfl) (by kernel_rfl) (by kernel_rfl) (fun _ _ _ h => h) (Or.inl ⟨by rfl, ?_⟩) hHeld ?_
            rotate_left
            · intro W hSw; (try dsimp only at hSw); go_simp; try with_reducible rfl
            simp only [Act.put, List.getElem_toArray, List.getElem_cons_succ, List.getElem_cons_zero, List.setIfInBounds_toArray, List.set_cons_zero, List.set_cons_succ]
            refine wpAnyH_ready (rs := [20]) (by kernel_rfl) (by simp) ?_
            refine AllReadyH.cons rfl (fun K hK => ?_) AllReadyH.nil
            go_simp
            go_at_call 27
            (with_reducible refine (HE.out _ (V27.b c1)).mono ?_)
            rintro e w8 ⟨rfl, hg⟩
            have c2 := V27.grow c1 hg
            clear hg
            (try dsimp only)
            refine hK.out _ _ (⟨V27.cells c2, c2⟩) (fun hHeld => ?_)
            clear hK K
            by_cases g4 : m.slots < x.1 + durB m x.2
            · refine wpAnyH_take (i := 23) (oi := _) (v := .bool true) rfl (by kernel_rfl) (by kernel_rfl) (by kernel_rfl) (fun _ _ _ h => h) (Or.inl ⟨by rfl, ?_⟩) hHeld ?_
              · intro W hSw; (try dsimp only at hSw); go_simp
              simp only [Act.put, List.getElem_toArray, List.getElem_cons_succ, List.getElem_cons_zero, List.setIfInBounds_toArray, List.set_cons_zero, List.set_cons_succ]
              refine wpAnyH_take (i := 24) (oi := _) (v := .bool true) rfl (by kernel_rfl) (by kernel_rfl) (by kernel_rfl) (fun _ _ _ h => h) (Or.inl ⟨by rfl, ?_⟩) hHeld ?_
              · intro W hSw; (try dsimp only at hSw); go_simp
              simp only [Act.put, List.getElem_toArray, List.getElem_cons_succ, List.getElem_cons_zero, List.setIfInBounds_toArray, List.set_cons_zero, List.set_cons_succ]
              refine wpAnyH_take (i := 25) (oi := _) (v := ?_) rfl (by kernel_rfl) (by kernel_rfl) (by kernel_rfl) (fun _ _ _ h => h) (Or.inl ⟨by rfl, ?_⟩) hHeld ?_
              rotate_left
              · intro W hSw; (try dsimp only at hSw); go_simp; try with_reducible rfl
              simp only [Act.put, List.getElem_toArray, List.getElem_cons_succ, List.getElem_cons_zero, List.setIfInBounds_toArray, List.set_cons_zero, List.set_cons_succ]
              refine wpAnyH_take (i := 26) (oi := _) (v := _) rfl (by kernel_rfl) (by kernel_rfl) (by kernel_rfl) (fun _ _ _ h => h) (Or.inr ⟨by rfl, rfl⟩) hHeld ?_
              simp only [Act.put, List.getElem_toArray, List.getElem_cons_succ, List.getElem_cons_zero, List.setIfInBounds_toArray, List.set_cons_zero, List.set_cons_succ]
              refine wpAnyH_take (i := 27) (oi := _) (v := _) rfl (by kernel_rfl) (by kernel_rfl) (by kernel_rfl) (fun _ _ _ h => h) (Or.inr ⟨by rfl, rfl⟩) hHeld ?_
              simp only [Act.put, List.getElem_toArray, List.getElem_cons_succ, List.getElem_cons_zero, List.setIfInBounds_toArray, List.set_cons_zero, List.set_cons_succ]
              refine wpAnyH_take (i := 28) (oi := _) (v := _) rfl (by kernel_rfl) (by kernel_rfl) (by kernel_rfl) (fun _ _ _ h => h) (Or.inr ⟨by rfl, rfl⟩) hHeld ?_
              simp only [Act.put, List.getElem_toArray, List.getElem_cons_succ, List.getElem_cons_zero, List.setIfInBounds_toArray, List.set_cons_zero, List.set_cons_succ]
              refine wpAnyH_take (i := 29) (oi := _) (v := _) rfl (by kernel_rfl) (by kernel_rfl) (by kernel_rfl) (fun _ _ _ h => h) (Or.inr ⟨by rfl, rfl⟩) hHeld ?_
              simp only [Act.put, List.getElem_toArray, List.getElem_cons_succ, List.getElem_cons_zero, List.setIfInBounds_toArray, List.set_cons_zero, List.set_cons_succ]
              refine wpAnyH_take (i := 30) (oi := _) (v := _) rfl (by kernel_rfl) (by kernel_rfl) (by kernel_rfl) (fun _ _ _ h => h) (Or.inr ⟨by rfl, rfl⟩) hHeld ?_
              simp only [Act.put, List.getElem_toArray, List.getElem_cons_succ, List.getElem_cons_zero, List.setIfInBounds_toArray, List.set_cons_zero, List.set_cons_succ]
              refine wpAnyH_take (i := 31) (oi := _) (v := _) rfl (by kernel_rfl) (by kernel_rfl) (by kernel_rfl) (fun _ _ _ h => h) (Or.inr ⟨by rfl, rfl⟩) hHeld ?_
              simp only [Act.put, List.getElem_toArray, List.getElem_cons_succ, List.getElem_cons_zero, List.setIfInBounds_toArray, List.set_cons_zero, List.set_cons_succ]
              refine wpAnyH_take (i := 32) (oi := _) (v := _) rfl (by kernel_rfl) (by kernel_rfl) (by kernel_rfl) (fun _ _ _ h => h) (Or.inr ⟨by rfl, rfl⟩) hHeld ?_
              simp only [Act.put, List.getElem_toArray, List.getElem_cons_succ, List.getElem_cons_zero, List.setIfInBounds_toArray, List.set_cons_zero, List.set_cons_succ]
              refine wpAnyH_take (i := 33) (oi := _) (v := _) rfl (by kernel_rfl) (by kernel_rfl) (by kernel_rfl) (fun _ _ _ h => h) (Or.inr ⟨by rfl, rfl⟩) hHeld ?_
              simp only [Act.put, List.getElem_toArray, List.getElem_cons_succ, List.getElem_cons_zero, List.setIfInBounds_toArray, List.set_cons_zero, List.set_cons_succ]
              refine wpAnyH_take (i := 34) (oi := _) (v := _) rfl (by kernel_rfl) (by kernel_rfl) (by kernel_rfl) (fun _ _ _ h => h) (Or.inr ⟨by rfl, rfl⟩) hHeld ?_
              simp only [Act.put, List.getElem_toArray, List.getElem_cons_succ, List.getElem_cons_zero, List.setIfInBounds_toArray, List.set_cons_zero, List.set_cons_succ]
              refine wpAnyH_take (i := 35) (oi := _) (v := _) rfl (by kernel_rfl) (by kernel_rfl) (by kernel_rfl) (fun _ _ _ h => h) (Or.inr ⟨by rfl, rfl⟩) hHeld ?_
              simp only [Act.put, List.getElem_toArray, List.getElem_cons_succ, List.getElem_cons_zero, List.setIfInBounds_toArray, List.set_cons_zero, List.set_cons_succ]
              refine wpAnyH_take (i := 36) (oi := _) (v := _) rfl (by kernel_rfl) (by kernel_rfl) (by kernel_rfl) (fun _ _ _ h => h) (Or.inr ⟨by rfl, rfl⟩) hHeld ?_
              simp only [Act.put, List.getElem_toArray, List.getElem_cons_succ, List.getElem_cons_zero, List.setIfInBounds_toArray, List.set_cons_zero, List.set_cons_succ]
              refine wpAnyH_take (i := 37) (oi := _) (v := _) rfl (by kernel_rfl) (by kernel_rfl) (by kernel_rfl) (fun _ _ _ h => h) (Or.inr ⟨by rfl, rfl⟩) hHeld ?_
              simp only [Act.put, List.getElem_toArray, List.getElem_cons_succ, List.getElem_cons_zero, List.setIfInBounds_toArray, List.set_cons_zero, List.set_cons_succ]
              refine wpAnyH_take (i := 38) (oi := _) (v := _) rfl (by kernel_rfl) (by kernel_rfl) (by kernel_rfl) (fun _ _ _ h => h) (Or.inr ⟨by rfl, rfl⟩) hHeld ?_
              simp only [Act.put, List.getElem_toArray, List.getElem_cons_succ, List.getElem_cons_zero, List.setIfInBounds_toArray, List.set_cons_zero, List.set_cons_succ]
              refine wpAnyH_take (i := 39) (oi := _) (v := .bool true) rfl (by kernel_rfl) (by kernel_rfl) (by kernel_rfl) (fun _ _ _ h => h) (Or.inl ⟨by rfl, ?_⟩) hHeld ?_
              · intro W hSw; (try dsimp only at hSw); go_simp
              simp only [Act.put, List.getElem_toArray, List.getElem_cons_succ, List.getElem_cons_zero, List.setIfInBounds_toArray, List.set_cons_zero, List.set_cons_succ]
              refine wpAnyH_done (by kernel_rfl) ?_ _
              go_wp2_with fail
              go_ret
              exact ⟨rfl, V27.b c2⟩
            · refine wpAnyH_take (i := 23) (oi := _) (v := .bool false) rfl (by kernel_rfl) (by kernel_rfl) (by kernel_rfl) (fun _ _ _ h => h) (Or.inl ⟨by rfl, ?_⟩) hHeld ?_
              · intro W hSw; (try dsimp only at hSw); go_simp
              simp only [Act.put, List.getElem_toArray, List.getElem_cons_succ, List.getElem_cons_zero, List.setIfInBounds_toArray, List.set_cons_zero, List.set_cons_succ]
              refine wpAnyH_take (i := 24) (oi := _) (v := .bool false) rfl (by kernel_rfl) (by kernel_rfl) (by kernel_rfl) (fun _ _ _ h => h) (Or.inl ⟨by rfl, ?_⟩) hHeld ?_
              · intro W hSw; (try dsimp only at hSw); go_simp
              simp only [Act.put, List.getElem_toArray, List.getElem_cons_succ, List.getElem_cons_zero, List.setIfInBounds_toArray, List.set_cons_zero, List.set_cons_succ]
              refine wpAnyH_take (i := 25) (oi := _) (v := ?_) rfl (by kernel_rfl) (by kernel_rfl) (by kernel_rfl) (fun _ _ _ h => h) (Or.inl ⟨by rfl, ?_⟩) hHeld ?_
              rotate_left
              · intro W hSw; (try dsimp only at hSw); go_simp; try with_reducible rfl
              simp only [Act.put, List.getElem_toArray, List.getElem_cons_succ, List.getElem_cons_zero, List.setIfInBounds_toArray, List.set_cons_zero, List.set_cons_succ]
              refine wpAnyH_take (i := 26) (oi := _) (v := ?_) rfl (by kernel_rfl) (by kernel_rfl) (by kernel_rfl) (fun _ _ _ h => h) (Or.inl ⟨by rfl, ?_⟩) hHeld ?_
              rotate_left
              · intro W hSw; (try dsimp only at hSw); go_simp; try with_reducible rfl
              simp only [Act.put, List.getElem_toArray, List.getElem_cons_succ, List.getElem_cons_zero, List.setIfInBounds_toArray, List.set_cons_zero, List.set_cons_succ]
              by_cases g5 : k = 0
              · have g6 : ¬ (0 : Int) < (k : Int) := by omega
                refine wpAnyH_take (i := 27) (oi := _) (v := .bool false) rfl (by kernel_rfl) (by kernel_rfl) (by kernel_rfl) (fun _ _ _ h => h) (Or.inl ⟨by rfl, ?_⟩) hHeld ?_
                · intro W hSw; (try dsimp only at hSw); go_simp
                simp only [Act.put, List.getElem_toArray, List.getElem_cons_succ, List.getElem_cons_zero, List.setIfInBounds_toArray, List.set_cons_zero, List.set_cons_succ]
                refine wpAnyH_take (i := 28) (oi := _) (v := ?_) rfl (by kernel_rfl) (by kernel_rfl) (by kernel_rfl) (fun _ _ _ h => h) (Or.inl ⟨by rfl, ?_⟩) hHeld ?_
                rotate_left
                · intro W hSw; (try dsimp only at hSw); go_simp; try with_reducible rfl
                simp only [Act.put, List.getElem_toArray, List.getElem_cons_succ, List.getElem_cons_zero, List.setIfInBounds_toArray, List.set_cons_zero, List.set_cons_succ]
                refine wpAnyH_take (i := 29) (oi := _) (v := _) rfl (by kernel_rfl) (by kernel_rfl) (by kernel_rfl) (fun _ _ _ h => h) (Or.inr ⟨by rfl, rfl⟩) hHeld ?_
                simp only [Act.put, List.getElem_toArray, List.getElem_cons_succ, List.getElem_cons_zero, List.setIfInBounds_toArray, List.set_cons_zero, List.set_cons_succ]
                refine wpAnyH_take (i := 30) (oi := _) (v := _) rfl (by kernel_rfl) (by kernel_rfl) (by kernel_rfl) (fun _ _ _ h => h) (Or.inr ⟨by rfl, rfl⟩) hHeld ?_
                simp only [Act.put, List.getElem_toArray, List.getElem_cons_succ, List.getElem_cons_zero, List.setIfInBounds_toArray, List.set_cons_zero, List.set_cons_succ]
                refine wpAnyH_take (i := 31) (oi := _) (v := _) rfl (by kernel_rfl) (by kernel_rfl) (by kernel_rfl) (fun _ _ _ h => h) (Or.inr ⟨by rfl, rfl⟩) hHeld ?_
                simp only [Act.put, List.getElem_toArray, List.getElem_cons_succ, List.getElem_cons_zero, List.setIfInBounds_toArray, List.set_cons_zero, List.set_cons_succ]
                refine wpAnyH_take (i := 32) (oi := _) (v := _) rfl (by kernel_rfl) (by kernel_rfl) (by kernel_rfl) (fun _ _ _ h => h) (Or.inr ⟨by rfl, rfl⟩) hHeld ?_
                simp only [Act.put, List.getElem_toArray, List.getElem_cons_succ, List.getElem_cons_zero, List.setIfInBounds_toArray, List.set_cons_zero, List.set_cons_succ]
                refine wpAnyH_take (i := 33) (oi := _) (v := _) rfl (by kernel_rfl) (by kernel_rfl) (by kernel_rfl) (fun _ _ _ h => h) (Or.inr ⟨by rfl, rfl⟩) hHeld ?_
                simp only [Act.put, List.getElem_toArray, List.getElem_cons_succ, List.getElem_cons_zero, List.setIfInBounds_toArray, List.set_cons_zero, List.set_cons_succ]
                refine wpAnyH_take (i := 34) (oi := _) (v := _) rfl (by kernel_rfl) (by kernel_rfl) (by kernel_rfl) (fun _ _ _ h => h) (Or.inr ⟨by rfl, rfl⟩) hHeld ?_
                simp only [Act.put, List.getElem_toArray, List.getElem_cons_succ, List.getElem_cons_zero, List.setIfInBounds_toArray, List.set_cons_zero, List.set_cons_succ]
                refine wpAnyH_take (i := 35) (oi := _) (v := _) rfl (by kernel_rfl) (by kernel_rfl) (by kernel_rfl) (fun _ _ _ h => h) (Or.inr ⟨by rfl, rfl⟩) hHeld ?_
                simp only [Act.put, List.getElem_toArray, List.getElem_cons_succ, List.getElem_cons_zero, List.setIfInBounds_toArray, List.set_cons_zero, List.set_cons_succ]
                refine wpAnyH_take (i := 36) (oi := _) (v := _) rfl (by kernel_rfl) (by kernel_rfl) (by kernel_rfl) (fun _ _ _ h => h) (Or.inr ⟨by rfl, rfl⟩) hHeld ?_
                simp only [Act.put, List.getElem_toArray, List.getElem_cons_succ, List.getElem_cons_zero, List.setIfInBounds_toArray, List.set_cons_zero, List.set_cons_succ]
                refine wpAnyH_take (i := 37) (oi := _) (v := _) rfl (by kernel_rfl) (by kernel_rfl) (by kernel_rfl) (fun _ _ _ h => h) (Or.inr ⟨by rfl, rfl⟩) hHeld ?_
                simp only [Act.put, List.getElem_toArray, List.getElem_cons_succ, List.getElem_cons_zero, List.setIfInBounds_toArray, List.set_cons_zero, List.set_cons_succ]
                refine wpAnyH_take (i := 38) (oi := _) (v := .bool false) rfl (by kernel_rfl) (by kernel_rfl) (by kernel_rfl) (fun _ _ _ h => h) (Or.inl ⟨by rfl, ?_⟩) hHeld ?_
                · intro W hSw; (try dsimp only at hSw); go_simp
                simp only [Act.put, List.getElem_toArray, List.getElem_cons_succ, List.getElem_cons_zero, List.setIfInBounds_toArray, List.set_cons_zero, List.set_cons_succ]
                refine wpAnyH_take (i := 39) (oi := _) (v := .bool false) rfl (by kernel_rfl) (by kernel_rfl) (by kernel_rfl) (fun _ _ _ h => h) (Or.inl ⟨by rfl, ?_⟩) hHeld ?_
                · intro W hSw; (try dsimp only at hSw); go_simp
                simp only [Act.put, List.getElem_toArray, List.getElem_cons_succ, List.getElem_cons_zero, List.setIfInBounds_toArray, List.set_cons_zero, List.set_cons_succ]
                refine wpAnyH_done (by kernel_rfl) ?_ _
                go_wp2_with fail
                go_roundw
                case rel => exact ⟨_, _, _, .int .i64 ((k + 1 : Nat) : Int), ⟨k + 1, by omega, rfl, hide (HOK.out HFF.out.symm g2 g3 g4 (Or.inl g5)), hide (HB5.out.trans ((V27.g c2).mono HB5.out.size))⟩, rfl, rfl, rfl, by first | rfl | simp [*]⟩
                case measure => simp [intOf]; omega
              · have g6 : (0 : Int) < (k : Int) := by omega
                have g9 : 0 < k := by omega
                have hwk := HWK.out g9
                refine wpAnyH_take (i := 27) (oi := _) (v := .bool true) rfl (by kernel_rfl) (by kernel_rfl) (by kernel_rfl) (fun _ _ _ h => h) (Or.inl ⟨by rfl, ?_⟩) hHeld ?_
                · intro W hSw; (try dsimp only at hSw); go_simp
                simp only [Act.put, List.getElem_toArray, List.getElem_cons_succ, List.getElem_cons_zero, List.setIfInBounds_toArray, List.set_cons_zero, List.set_cons_succ]
                refine wpAnyH_take (i := 28) (oi := _) (v := ?_) rfl (by kernel_rfl) (by kernel_rfl) (by kernel_rfl) (fun _ _ _ h => h) (Or.inl ⟨by rfl, ?_⟩) hHeld ?_
                rotate_left
                · intro W hSw; (try dsimp only at hSw); go_simp; try with_reducible rfl
                simp only [Act.put, List.getElem_toArray, List.getElem_cons_succ, List.getElem_cons_zero, List.setIfInBounds_toArray, List.set_cons_zero, List.set_cons_succ]
                refine wpAnyH_take (i := 29) (oi := _) (v := ?_) rfl (by kernel_rfl) (by kernel_rfl) (by kernel_rfl) (fun _ _ _ h => h) (Or.inl ⟨by rfl, ?_⟩) hHeld ?_
                rotate_left
                · intro W hSw; (try dsimp only at hSw); go_simp; try with_reducible rfl
                simp only [Act.put, List.getElem_toArray, List.getElem_cons_succ, List.getElem_cons_zero, List.setIfInBounds_toArray, List.set_cons_zero, List.set_cons_succ]
                refine wpAnyH_take (i := 30) (oi := _) (v := ?_) rfl (by kernel_rfl) (by kernel_rfl) (by kernel_rfl) (fun _ _ _ h => h) (Or.inl ⟨by rfl, ?_⟩) hHeld ?_
                rotate_left
                · intro W hSw; (try dsimp only at hSw); go_simp; try with_reducible rfl
                simp only [Act.put, List.getElem_toArray, List.getElem_cons_succ, List.getElem_cons_zero, List.setIfInBounds_toArray, List.set_cons_zero, List.set_cons_succ]
                refine wpAnyH_take (i := 31) (oi := _) (v := ?_) rfl (by kernel_rfl) (by kernel_rfl) (by kernel_rfl) (fun _ _ _ h => h) (Or.inl ⟨by rfl, ?_⟩) hHeld ?_
                rotate_left
                · intro W hSw; (try dsimp only at hSw); go_simp; try with_reducible rfl
                simp only [Act.put, List.getElem_toArray, List.getElem_cons_succ, List.getElem_cons_zero, List.setIfInBounds_toArray, List.set_cons_zero, List.set_cons_succ]
                refine wpAnyH_take (i := 32) (oi := _) (v := ?_) rfl (by kernel_rfl) (by kernel_rfl) (by kernel_rfl) (fun _ _ _ h => h) (Or.inl ⟨by rfl, ?_⟩) hHeld ?_
                rotate_left
                · intro W hSw; (try dsimp only at hSw); go_simp; try with_reducible rfl
                simp only [Act.put, List.getElem_toArray, List.getElem_cons_succ, List.getElem_cons_zero, List.setIfInBounds_toArray, List.set_cons_zero, List.set_cons_succ]
                refine wpAnyH_take (i := 33) (oi := _) (v := ?_) rfl (by kernel_rfl) (by kernel_rfl) (by kernel_rfl) (fun _ _ _ h => h) (Or.inl ⟨by rfl, ?_⟩) hHeld ?_
                rotate_left
                · intro W hSw; (try dsimp only at hSw); go_simp; try with_reducible rfl
                simp only [Act.put, List.getElem_toArray, List.getElem_cons_succ, List.getElem_cons_zero, List.setIfInBounds_toArray, List.set_cons_zero, List.set_cons_succ]
                refine wpAnyH_take (i := 34) (oi := _) (v := ?_) rfl (by kernel_rfl) (by kernel_rfl) (by kernel_rfl) (fun _ _ _ h => h) (Or.inl ⟨by rfl, ?_⟩) hHeld ?_
                rotate_left
                · intro W hSw; (try dsimp only at hSw); go_simp; try with_reducible rfl
                simp only [Act.put, List.getElem_toArray, List.getElem_cons_succ, List.getElem_cons_zero, List.setIfInBounds_toArray, List.set_cons_zero, List.set_cons_succ]
                refine wpAnyH_take (i := 35) (oi := _) (v := ?_) rfl (by kernel_rfl) (by kernel_rfl) (by kernel_rfl) (fun _ _ _ h => h) (Or.inl ⟨by rfl, ?_⟩) hHeld ?_
                rotate_left
                · intro W hSw; (try dsimp only at hSw); go_simp; try with_reducible rfl
                simp only [Act.put, List.getElem_toArray, List.getElem_cons_succ, List.getElem_cons_zero, List.setIfInBounds_toArray, List.set_cons_zero, List.set_cons_succ]
                refine wpAnyH_ready (rs := [36]) (by kernel_rfl) (by simp) ?_
                refine AllReadyH.cons rfl (fun K hK => ?_) AllReadyH.nil
                go_simp
                go_at_call 28
                (with_reducible refine (HCP.out _).mono ?_)
                rintro e w9 ⟨rfl, hg⟩
                have c3 := V27.grow c2 (Gw.below hg)
                clear hg
                (try dsimp only)
                refine hK.out _ _ (⟨V27.cells c3, c3⟩) (fun hHeld => ?_)
                clear hK K
                by_cases g7 : cmpS y x < 0
                · refine wpAnyH_take (i := 37) (oi := _) (v := .bool false) rfl (by kernel_rfl) (by kernel_rfl) (by kernel_rfl) (fun _ _ _ h => h) (Or.inl ⟨by rfl, ?_⟩) hHeld ?_
                  · intro W hSw; (try dsimp only at hSw); go_simp
                  simp only [Act.put, List.getElem_toArray, List.getElem_cons_succ, List.getElem_cons_zero, List.setIfInBounds_toArray, List.set_cons_zero, List.set_cons_succ]
                  refine wpAnyH_take (i := 38) (oi := _) (v := .bool false) rfl (by kernel_rfl) (by kernel_rfl) (by kernel_rfl) (fun _ _ _ h => h) (Or.inl ⟨by rfl, ?_⟩) hHeld ?_
                  · intro W hSw; (try dsimp only at hSw); go_simp
                  simp only [Act.put, List.getElem_toArray, List.getElem_cons_succ, List.getElem_cons_zero, List.setIfInBounds_toArray, List.set_cons_zero, List.set_cons_succ]
                  refine wpAnyH_take (i := 39) (oi := _) (v := .bool false) rfl (by kernel_rfl) (by kernel_rfl) (by kernel_rfl) (fun _ _ _ h => h) (Or.inl ⟨by rfl, ?_⟩) hHeld ?_
                  · intro W hSw; (try dsimp only at hSw); go_simp
                  simp only [Act.put, List.getElem_toArray, List.getElem_cons_succ, List.getElem_cons_zero, List.setIfInBounds_toArray, List.set_cons_zero, List.set_cons_succ]
                  refine wpAnyH_done (by kernel_rfl) ?_ _
                  go_wp2_with fail
                  go_roundw
                  case rel => exact ⟨_, _, _, .int .i64 ((k + 1 : Nat) : Int), ⟨k + 1, by omega, rfl, hide (HOK.out HFF.out.symm g2 g3 g4 (Or.inr g7)), hide (HB5.out.trans ((V27.g c3).mono HB5.out.size))⟩, rfl, rfl, rfl, by first | rfl | simp [*]⟩
                  case measure => simp [intOf]; omega
                · have g8 : 0 ≤ cmpS y x := by omega
                  refine wpAnyH_take (i := 37) (oi := _) (v := .bool true) rfl (by kernel_rfl) (by kernel_rfl) (by kernel_rfl) (fun _ _ _ h => h) (Or.inl ⟨by rfl, ?_⟩) hHeld ?_
                  · intro W hSw; (try dsimp only at hSw); go_simp
                  simp only [Act.put, List.getElem_toArray, List.getElem_cons_succ, List.getElem_cons_zero, List.setIfInBounds_toArray, List.set_cons_zero, List.set_cons_succ]
                  refine wpAnyH_take (i := 38) (oi := _) (v := .bool true) rfl (by kernel_rfl) (by kernel_rfl) (by kernel_rfl) (fun _ _ _ h => h) (Or.inl ⟨by rfl, ?_⟩) hHeld ?_
                  · intro W hSw; (try dsimp only at hSw); go_simp
                  simp only [Act.put, List.getElem_toArray, List.getElem_cons_succ, List.getElem_cons_zero, List.setIfInBounds_toArray, List.set_cons_zero, List.set_cons_succ]
                  refine wpAnyH_take (i := 39) (oi := _) (v := .bool true) rfl (by kernel_rfl) (by kernel_rfl) (by kernel_rfl) (fun _ _ _ h => h) (Or.inl ⟨by rfl, ?_⟩) hHeld ?_
                  · intro W hSw; (try dsimp only at hSw); go_simp
                  simp only [Act.put, List.getElem_toArray, List.getElem_cons_succ, List.getElem_cons_zero, List.setIfInBounds_toArray, List.set_cons_zero, List.set_cons_succ]
                  refine wpAnyH_done (by kernel_rfl) ?_ _
                  go_wp2_with fail
                  go_ret
                  exact ⟨rfl, V27.b c3⟩
      -- END
    · obtain rfl : k = p.length := by omega
      have h2 := hok.out
      rw [List.take_of_length_le (Nat.le_refl _)] at h2
      exact absurd h2 HNO.out
end Go.Proofs.YtpggamapmgpjcaaGreatDoor

namespace Go.Proofs.YtpggamapmgpjcaaGreatDoor
open Go Go.RowKit Go.Proofs

theorem pointGo_fail (e1 e2 : Int) (L : List StM) : ∀ (p : List StM) (o : List Int), (pointGo e1 e2 L p o).2 ≠ 0 → (pointGo e1 e2 L p o).1 = []
  | [], o, h => absurd rfl h
  | s :: r, o, h => by
    unfold pointGo at h ⊢
    split
    · rename_i hs
      rw [if_pos hs] at h
      split
      · rfl
      · rename_i ho
        rw [if_neg ho] at h
        exact pointGo_fail e1 e2 L r _ h
    · rfl
/-- where the point fails although there are choices, the plan is not valid -/
theorem point_bad (m : Mod) (p : List StM) (hc : (choR m).2 = 0) (h : (xpointR m p).2 ≠ 0) : (xpointR m p).1 = [] ∧ validM m = true ∧ ¬ okP m p := by
  unfold xpointR at h ⊢
  rw [if_neg (by simpa using hc)] at h ⊢
  refine ⟨pointGo_fail _ _ _ _ _ h, (choR_ok hc).1, fun hk => ?_⟩
  obtain ⟨o', q1, _⟩ := pointGo_all 6 5 (stepsM m) (steps_nodup m) p (List.replicate (stepsM m).length 0) (up_nodup hk.1) hk.2 (by simp) (fun k hk _ => by simp [hk])
  rw [q1] at h
  exact h rfl
/-- where there is a point, its plan is the plan with its steps in order -/
theorem point_good (m : Mod) (p : List StM) (h : (xpointR m p).2 = 0) : xplanR m (xpointR m p).1 = (normM p, 0) ∧ (normM p).length = p.length := by
  by_cases hc : (choR m).2 = 0
  · unfold xpointR at h ⊢
    rw [if_neg (by simpa using hc)] at h ⊢
    obtain ⟨q1, q2, q3, q4⟩ := plan_point 6 5 (by decide) (by decide) (stepsM m) (steps_nodup m) p (pointGo 6 5 (stepsM m) p (List.replicate (stepsM m).length 0)).1 (Prod.ext rfl h)
    refine ⟨?_, q2⟩
    unfold xplanR planA
    rw [if_neg (by simpa using hc), if_neg (by omega), if_neg, q1]
    intro hb
    rw [badX, List.any_eq_true] at hb
    obtain ⟨v, hv, hb⟩ := hb
    have := q4 v hv
    have hb := of_decide_eq_true hb
    omega
  · unfold xpointR at h
    rw [if_pos hc] at h
    exact absurd h hc
/-- the boxes of two plans -/
structure C27 (w w7 : World) (A6 Ap : Option Addr) (n c6 cp bp : Nat) (W : World) : Prop where
  q : Blk W bp 35 #[.slice A6 n c6]
  p : Blk W (w.heap.size + 1) 35 #[.slice Ap n cp]
  g : Below w7.heap.size w7 W
theorem C27.grow {w w7 : World} {A6 Ap : Option Addr} {n c6 cp bp : Nat} {W W2 : World} (s : C27 w w7 A6 Ap n c6 cp bp W) (hb : Below W.heap.size W W2) : C27 w w7 A6 Ap n c6 cp bp W2 := ⟨s.q.below hb s.q.lt, s.p.below hb s.p.lt, s.g.trans (hb.mono s.g.size)⟩
theorem C27.drew {w w7 : World} {A6 Ap : Option Addr} {n c6 cp bp : Nat} {W : World} (s : C27 w w7 A6 Ap n c6 cp bp W) : C27 w w7 A6 Ap n c6 cp bp W.drew := s.grow (Below.refl _ W).drew
theorem C27.cells {w w7 : World} {A6 Ap : Option Addr} {n c6 cp bp : Nat} {W : World} (s : C27 w w7 A6 Ap n c6 cp bp W) : W.cell? ⟨bp, 0, none⟩ = some (.slice A6 n c6) ∧ W.cell? ⟨w.heap.size + 1, 0, none⟩ = some (.slice Ap n cp) ∧ bp < W.heap.size ∧ w.heap.size + 1 < W.heap.size := ⟨s.q.cell 0, s.p.cell 0, s.q.lt, s.p.lt⟩
set_option maxRecDepth 100000 in
set_option maxHeartbeats 4000000 in
theorem extractInverse_walk (h : MH) (m : Mod) (Ap : Option Addr) (p : List StM) (cp : Nat) (w : World) (d : MD w w.heap.size h m) (k1 : m.racks.length ≤ h.rc) (k2 : m.machs.length ≤ h.mc) (k3 : m.links.length ≤ h.lc) (hp : RdE elSt w Ap p) (ha : Asc w) :
    Calls Tryz.prog 6 #[.agg #[.slice h.s m.sites.length h.sc, .slice h.f m.feeds.length h.fc, .slice h.r m.racks.length h.rc, .slice h.m m.machs.length h.mc, .slice h.l m.links.length h.lc, .slice h.i m.items.length h.ic, .int .i64 m.dark, .int .i64 m.slots, .int .i64 m.reserve, .int .i64 m.failures, .slice h.u m.rules.length h.uc], .agg #[.slice Ap p.length cp]] w (AnsR w (.bool true)) := by
  have HS0 := hide (B27.start h m Ap p.length cp w d)
  have HAW := hide (fun W (s : B27 w h m Ap p.length cp W) => awake27 W (ha.below (Nat.le_refl _) s.a.b))
  have HF := hide (fun W (s : B27 w h m Ap p.length cp W) => few27_law h m none Ap 0 p.length 0 cp W s.a.d)
  have hxp : p.length ≤ 60 → ∀ W, B27 w h m Ap p.length cp W → _ := fun hl W s => xpoint_prog h m Ap p cp W s.a.d k1 k2 k3 (ha.below (Nat.le_refl _) s.a.b) (hp.grow s.a.b) (by omega)
  have hcho : ∀ W, B27 w h m Ap p.length cp W → _ := fun W s => choices_prog h m W s.a.d k1 k2 k3 (ha.below (Nat.le_refl _) s.a.b)
  have hpv := fun (hl : p.length ≤ 60) (hv : validM m = true) (hno : ¬ okP m p) W (s : B27 w h m Ap p.length cp W) => pvalid_no h m Ap p cp W s.a.d k1 k2 k3 (ha.below (Nat.le_refl _) s.a.b) (hp.grow s.a.b) (by omega) hv hno
  have hxl := fun (A : Option Addr) (c : Nat) (l : List Int) W (s : B27 w h m Ap p.length cp W) (hi : Ints W W.heap.size A l) => xplan_prog h m A l c W s.a.d k1 k2 k3 (ha.below (Nat.le_refl _) s.a.b) hi
  have hbad := point_bad m p
  have hgood := point_good m p
  have hfull : (choR m).2 ≠ 0 → (xpointR m p).2 = (choR m).2 := fun hc => by rw [xpointR, if_pos hc]
  have hsl := xpoint_short m p
  obtain ⟨⟨l, q⟩, hlq⟩ : ∃ lq, lq = xpointR m p := ⟨_, rfl⟩
  rw [← hlq] at hxp hsl hbad hgood hfull
  dsimp only at hxp hsl hbad hgood hfull
  obtain ⟨⟨lc, qc⟩, hlc⟩ : ∃ lq, lq = choR m := ⟨_, rfl⟩
  rw [← hlc] at hcho hbad hfull
  dsimp only at hcho hbad hfull
  have HXP := hide hxp
  have HCH := hide hcho
  have HPV := hide hpv
  have HXL := hide hxl
  have HBAD := hide hbad
  have HGOOD := hide hgood
  have HFULL := hide hfull
  have HPR := hide hp
  have HSL := hide hsl
  clear hxp hcho hpv hxl hbad hgood hfull hsl hlq hlc d k1 k2 k3 hp ha
  go_enter Tryz.func6, Tryz.ntmps6
  go_upto_region 3 with (first
    | (go_at_call 7; (with_reducible refine (HAW.out _ HS0.out).mono ?_); rintro e w1 ⟨rfl, hb1⟩
       have HS1 := hide (HS0.out.grow hb1)
       obtain ⟨a0, a1, a2, a3, a4, a5, a6, a7, a8, a9, a10⟩ := MB.cells HS1.out.a.mb
       have al := HS1.out.a.mb.lt
       obtain ⟨p0, pl⟩ := HS1.out.cells
       clear hb1 HS0)
    | (go_at_call 8; (with_reducible refine (HF.out _ HS1.out).mono ?_); rintro e w2 ⟨⟨b, rfl, hfew⟩, hb2⟩
       have HS2 := hide (HS1.out.grow hb2)
       have HFW := hide hfew
       clear hb2 hfew a0 a1 a2 a3 a4 a5 a6 a7 a8 a9 a10 al p0 pl
       obtain ⟨a0, a1, a2, a3, a4, a5, a6, a7, a8, a9, a10⟩ := MB.cells HS2.out.a.mb
       have al := HS2.out.a.mb.lt
       obtain ⟨p0, pl⟩ := HS2.out.cells
       cases b)
    | (go_at_call 7; (with_reducible refine (HAW.out _ HS2.out).mono ?_); rintro e w3 ⟨rfl, hb3⟩
       have HS3 := hide (HS2.out.grow hb3)
       clear hb3))
  · go_ret
    exact ⟨rfl, HS3.out.a.b⟩
  · have hl60 : p.length ≤ 60 := (HFW.out (by first | trivial | rfl)).2.2
    go_upto_region 4 with (go_at_call 12; (with_reducible refine (HXP.out hl60 _ HS2.out).mono ?_); rintro e w4 ⟨A4, c4, rfl, hr4, hb4⟩
                           have HS4 := hide (HS2.out.grow hb4)
                           have HR4 := hide hr4
                           clear hr4 hb4 a0 a1 a2 a3 a4 a5 a6 a7 a8 a9 a10 al p0 pl
                           obtain ⟨a0, a1, a2, a3, a4, a5, a6, a7, a8, a9, a10⟩ := MB.cells HS4.out.a.mb
                           have al := HS4.out.a.mb.lt
                           obtain ⟨p0, pl⟩ := HS4.out.cells)
    by_cases hq : q = 0
    · subst hq
      obtain ⟨hg1, hg2⟩ := HGOOD.out (by first | trivial | rfl)
      have hpl := HXL.out A4 c4 l _ HS4.out HR4.out
      rw [hg1] at hpl
      have HPL := hide hpl
      have HLN := hide hg2
      clear hpl hg1 hg2
      go_upto_region 10 with (go_at_call 9; (with_reducible refine HPL.out.mono ?_); rintro e w6 ⟨A6, c6, e6, hr6, hb6⟩
                              have e6' : e = .returned (.tuple #[.agg #[.slice A6 p.length c6], .int .i64 0]) := by rw [e6, HLN.out]
                              subst e6'
                              have HS6 := hide (HS4.out.grow hb6)
                              have HR6 := hide hr6
                              clear e6 hr6 hb6 a0 a1 a2 a3 a4 a5 a6 a7 a8 a9 a10 al p0 pl)
      have hg7 : Below w6.heap.size w6 (w6.alloc (.cells #[.slice A6 p.length c6] 35)) := (Below.refl _ _).alloc (Nat.le_refl _) _
      have hs7 : C27 w (w6.alloc (.cells #[.slice A6 p.length c6] 35)) A6 Ap p.length c6 cp w6.heap.size (w6.alloc (.cells #[.slice A6 p.length c6] 35)) := ⟨Blk.new w6 _ _, (HS6.out.grow hg7).p, Below.refl _ _⟩
      have HR7 := hide (HR6.out.grow hg7)
      have HP7 := hide (HPR.out.grow (HS6.out.grow hg7).a.b)
      have HB7 := hide (HS6.out.grow hg7).a.b
      obtain ⟨w7, hw7⟩ : ∃ w7, w7 = w6.alloc (.cells #[.slice A6 p.length c6] 35) := ⟨_, rfl⟩
      obtain ⟨bp, hbp⟩ : ∃ bp, bp = w6.heap.size := ⟨_, rfl⟩
      rw [← hw7] at HR7 HP7 HB7 hs7 ⊢
      rw [← hbp] at hs7 ⊢
      have HS7 := hide hs7
      have HNM := hide (fun W (hW : Below w7.heap.size w7 W) => normal_prog p Ap cp W (by omega) (HP7.out.grow hW))
      have HSM := hide (fun A8 c8 W (hW : Below w7.heap.size w7 W) (h8 : RdE elSt W A8 (normM p)) => same_prog A6 A8 c6 c8 (normM p) W (by have := HLN.out; omega) (HR7.out.grow hW) h8)
      rw [HLN.out] at HSM
      clear hw7 hbp hg7 hs7 HS6 HR6
      obtain ⟨q0, p0, ql, pl⟩ := HS7.out.cells
      go_region_held3 (fun W => (W.cell? ⟨bp, 0, none⟩ = some (.slice A6 p.length c6) ∧ W.cell? ⟨w.heap.size + 1, 0, none⟩ = some (.slice Ap p.length cp) ∧ bp < W.heap.size ∧ w.heap.size + 1 < W.heap.size) ∧ C27 w w7 A6 Ap p.length c6 cp bp W)
        ((with_reducible (first | (go_keep; done) | exact ⟨C27.cells HS7.out.drew, HS7.out.drew⟩ | exact ⟨C27.cells s2, s2⟩ | exact ⟨C27.cells s1, s1⟩)))
        ((first
          | (go_at_call 18; (with_reducible refine (HNM.out _ (C27.g (C27.drew HS7.out))).mono ?_); rintro e w8 ⟨A8, c8, e8, _, _, hr8, _, hb8⟩
             have e8' : e = .returned (.agg #[.slice A8 p.length c8]) := by rw [e8, HLN.out]
             subst e8'
             have s1 := C27.grow (C27.drew HS7.out) hb8
             clear e8 hb8)
          | (go_at_call 17; (with_reducible refine (HSM.out A8 c8 _ (C27.g s1) hr8).mono ?_); rintro e w9 ⟨rfl, hb9⟩
             have s2 := C27.grow s1 hb9
             clear hb9)))
      go_wp2_with fail
      go_ret
      exact ⟨rfl, HB7.out.trans (s2.g.mono HB7.out.size)⟩
    · have g : (q != 0) = true := by simpa using hq
      by_cases hqc : qc = 0
      · subst hqc
        obtain ⟨hl0, hv, hno⟩ := HBAD.out (by first | trivial | rfl) hq
        subst hl0
        have HV := hide (HPV.out hl60 hv hno)
        clear hv hno
        go_wp2_with (first
          | (go_at_call 15; (with_reducible refine (HCH.out _ HS4.out).mono ?_); rintro e w6 ⟨A6, c6, rfl, hr6, hb6⟩
             have HS6 := hide (HS4.out.grow hb6)
             clear hr6 hb6 a0 a1 a2 a3 a4 a5 a6 a7 a8 a9 a10 al p0 pl
             obtain ⟨a0, a1, a2, a3, a4, a5, a6, a7, a8, a9, a10⟩ := MB.cells HS6.out.a.mb
             have al := HS6.out.a.mb.lt
             obtain ⟨p0, pl⟩ := HS6.out.cells)
          | (go_at_call 16; (with_reducible refine (HV.out _ HS6.out).mono ?_); rintro e w7 ⟨rfl, hb7⟩
             have HS7 := hide (HS6.out.grow hb7)
             clear hb7))
        go_ret
        exact ⟨rfl, HS7.out.a.b⟩
      · have hqq : q = qc := HFULL.out hqc
        have g2 : (qc != 0) = true := by simpa using hqc
        subst hqq
        go_wp2_with (go_at_call 15; (with_reducible refine (HCH.out _ HS4.out).mono ?_); rintro e w6 ⟨A6, c6, rfl, hr6, hb6⟩
                     have HS6 := hide (HS4.out.grow hb6)
                     clear hr6 hb6)
        go_ret
        exact ⟨by simp, HS6.out.a.b⟩
end Go.Proofs.YtpggamapmgpjcaaGreatDoor
