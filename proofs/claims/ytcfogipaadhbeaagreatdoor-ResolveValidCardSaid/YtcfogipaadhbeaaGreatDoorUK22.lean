/- A part of the claim: see its last text. -/
import Derived.Test.YtcfogipaadhbeaaGreatDoorUK21
import Derived.Test.YtcfogipaadhbeaaGreatDoorUK09
import Derived.Test.YtcfogipaadhbeaaGreatDoorShelf
import Derived.Test.YtcfogipaadhbeaaGreatDoorUK02
import Derived.Deep.Draws
import Derived.IntWalk

set_option maxRecDepth 100000
set_option maxHeartbeats 16000000
namespace Go.Proofs.YtcfogipaadhbeaaGreatDoor
open Go Go.RowKit Go.Proofs
theorem exists_prog (n l : Int) (w : World) : Calls Tryz.prog 109 #[.int .i64 n, .int .i64 l] w fun e w' => e = .returned (.bool (exI n l)) ∧ w = w' := by
 by_cases h1 : 1 ≤ n <;> by_cases h2 : n ≤ l
 all_goals
  have hL : exI n l = (decide (1 ≤ n) && decide (n ≤ l)) := rfl
  have HL := hide hL; clear hL
  go_enter Tryz.func109, Tryz.ntmps109
  go_wp2
  go_ret
  exact ⟨ret_congr (by rw [HL.out]; simp [*]), rfl⟩
theorem amount_prog (n : Int) (w : World) : Calls Tryz.prog 116 #[.int .i64 n] w fun e w' => e = .returned (.bool (wiI n 0 1048576)) ∧ w = w' := by
 by_cases h1 : 0 ≤ n <;> by_cases h2 : n ≤ 1048576
 all_goals
  have hL : wiI n 0 1048576 = (decide (0 ≤ n) && decide (n ≤ 1048576)) := rfl
  have HL := hide hL; clear hL
  go_enter Tryz.func116, Tryz.ntmps116
  go_wp2
  go_ret
  exact ⟨ret_congr (by rw [HL.out]; simp [*]), rfl⟩
theorem rack_other (x y : RackM) (bx : Nat) (W : World) (hX : Blk W bx 69 #[.string x.name, .int .i64 x.site, .int .i64 x.feed]) :
    Calls Tryz.prog 112 #[.agg #[.string y.name, .int .i64 y.site, .int .i64 y.feed], .pointer (some ⟨bx, 0, none⟩)] W fun e w' => e = .returned (.bool (decide (y.feed = x.feed) && decide (y.site ≠ x.site))) ∧ Below W.heap.size W w' := by
 have x1 := hX.cell 1
 have x2 := hX.cell 2
 have hlt := hX.lt
 simp at x1 x2
 by_cases f1 : y.feed = x.feed
 · have g1 : (y.feed == x.feed) = true := by simpa using f1
   by_cases f2 : y.site = x.site
   · have g2 : (y.site != x.site) = false := by simpa using f2
     have HV := hide (show (decide (y.feed = x.feed) && decide (y.site ≠ x.site)) = false by simp [f2])
     clear f1 f2
     go_enter Tryz.func112, Tryz.ntmps112
     go_wp2_with fail
     go_ret
     exact ⟨ret_congr (by rw [HV.out]; rfl), (Below.refl _ _).alloc (Nat.le_refl _) _⟩
   · have g2 : (y.site != x.site) = true := by simpa using f2
     have HV := hide (show (decide (y.feed = x.feed) && decide (y.site ≠ x.site)) = true by simp [f1, f2])
     clear f1 f2
     go_enter Tryz.func112, Tryz.ntmps112
     go_wp2_with fail
     go_ret
     exact ⟨ret_congr (by rw [HV.out]; rfl), (Below.refl _ _).alloc (Nat.le_refl _) _⟩
 · have g1 : (y.feed == x.feed) = false := by simpa using f1
   have HV := hide (show (decide (y.feed = x.feed) && decide (y.site ≠ x.site)) = false by simp [f1])
   clear f1
   go_enter Tryz.func112, Tryz.ntmps112
   go_wp2_with fail
   go_ret
   exact ⟨ret_congr (by rw [HV.out]; rfl), (Below.refl _ _).alloc (Nat.le_refl _) _⟩
theorem link_same (x y : LinkM) (bx : Nat) (W : World) (hX : Blk W bx 73 #[.int .i64 x.a, .int .i64 x.b, .int .i64 x.cap]) :
    Calls Tryz.prog 119 #[.agg #[.int .i64 y.a, .int .i64 y.b, .int .i64 y.cap], .pointer (some ⟨bx, 0, none⟩)] W fun e w' => e = .returned (.bool (decide (y.a = x.a) && decide (y.b = x.b))) ∧ Below W.heap.size W w' := by
 have x1 := hX.cell 0
 have x2 := hX.cell 1
 have hlt := hX.lt
 simp at x1 x2
 by_cases f1 : y.a = x.a
 · have g1 : (y.a == x.a) = true := by simpa using f1
   by_cases f2 : y.b = x.b
   · have g2 : (y.b == x.b) = true := by simpa using f2
     have HV := hide (show (decide (y.a = x.a) && decide (y.b = x.b)) = true by simp [f1, f2])
     clear f1 f2
     go_enter Tryz.func119, Tryz.ntmps119
     go_wp2_with fail
     go_ret
     exact ⟨ret_congr (by rw [HV.out]; rfl), (Below.refl _ _).alloc (Nat.le_refl _) _⟩
   · have g2 : (y.b == x.b) = false := by simpa using f2
     have HV := hide (show (decide (y.a = x.a) && decide (y.b = x.b)) = false by simp [f2])
     clear f1 f2
     go_enter Tryz.func119, Tryz.ntmps119
     go_wp2_with fail
     go_ret
     exact ⟨ret_congr (by rw [HV.out]; rfl), (Below.refl _ _).alloc (Nat.le_refl _) _⟩
 · have g1 : (y.a == x.a) = false := by simpa using f1
   have HV := hide (show (decide (y.a = x.a) && decide (y.b = x.b)) = false by simp [f1])
   clear f1
   go_enter Tryz.func119, Tryz.ntmps119
   go_wp2_with fail
   go_ret
   exact ⟨ret_congr (by rw [HV.out]; rfl), (Below.refl _ _).alloc (Nat.le_refl _) _⟩
theorem rack_ok (h : MH) (m : Mod) (x : RackM) (A : Option Addr) (i c : Nat) (pre : List RackM) (hi : pre.length = i) (hli : i ≤ 9223372036854775807) (bm : Nat) (W : World) (hM : Blk W bm 32 #[.slice h.s m.sT.length h.sc, .slice h.f m.fT.length h.fc, .slice h.r m.rT.length h.rc, .slice h.m m.mT.length h.mc, .slice h.l m.lT.length h.lc, .slice h.i m.iT.length h.ic, .int .i64 m.dT, .int .i64 m.oT, .int .i64 m.vT, .int .i64 m.aT, .slice h.u m.uT.length h.uc]) (hP : Rows encRack 3 W W.heap.size A pre) (_l0 : m.sT.length ≤ 9223372036854775807) (_l1 : m.fT.length ≤ 9223372036854775807) :
    Calls Tryz.prog 111 #[.agg #[.string x.name, .int .i64 x.site, .int .i64 x.feed], .slice A i c, .pointer (some ⟨bm, 0, none⟩)] W fun e w' => e = .returned (.bool (rackOk m x pre)) ∧ Below W.heap.size W w' := by
 subst hi
 obtain ⟨c0, c1, c2, c3, c4, c5, c6, c7, c8, c9, c10⟩ := MB.cells hM
 clear c2 c3 c4 c5 c6 c7 c8 c9 c10
 have hlt := hM.lt
 have hBW := (Below.refl W.heap.size W).alloc (Nat.le_refl _) (.cells #[.string x.name, .int .i64 x.site, .int .i64 x.feed] 69)
 have HX := hide (Blk.new W 69 #[.string x.name, .int .i64 x.site, .int .i64 x.feed])
 have HC := hide (containsFunc_Rack 112 #[.pointer (some ⟨W.heap.size, 0, none⟩)] (fun _ _ => by kernel_rfl) (fun y => decide (y.feed = x.feed) && decide (y.site ≠ x.site)) A c pre _ hli (hP.grow hBW) (fun j hj W' hW' => rack_other x pre[j] _ W' (HX.out.below hW' (by simp))))
 have HB := hide hBW
 have hR := show rackOk m x pre = (exI x.site m.sT.length && exI x.feed m.fT.length && !pre.any fun y => decide (y.feed = x.feed) && decide (y.site ≠ x.site)) from rfl
 have HR := hide hR
 clear hBW hP hM hR
 generalize (pre.any fun y => decide (y.feed = x.feed) && decide (y.site ≠ x.site)) = q at HC HR
 cases e1 : exI x.site m.sT.length <;> cases e2 : exI x.feed m.fT.length
 all_goals
  go_enter Tryz.func111, Tryz.ntmps111
  go_wp2_with (first
   | (go_at_call 109; refine (exists_prog _ _ _).mono ?_; rintro e w' ⟨rfl, rfl⟩)
   | (go_at_call 113; refine HC.out.mono ?_; rintro e w1 ⟨rfl, hb1⟩))
  go_ret
  exact ⟨ret_congr (by rw [HR.out]; simp [*]), by first | exact HB.out.trans (hb1.mono HB.out.size) | exact HB.out⟩
theorem mach_ok (h : MH) (m : Mod) (x : MachM) (A : Option Addr) (i c : Nat) (bm : Nat) (W : World) (hM : Blk W bm 32 #[.slice h.s m.sT.length h.sc, .slice h.f m.fT.length h.fc, .slice h.r m.rT.length h.rc, .slice h.m m.mT.length h.mc, .slice h.l m.lT.length h.lc, .slice h.i m.iT.length h.ic, .int .i64 m.dT, .int .i64 m.oT, .int .i64 m.vT, .int .i64 m.aT, .slice h.u m.uT.length h.uc]) (_l0 : m.rT.length ≤ 9223372036854775807) :
    Calls Tryz.prog 115 #[.agg #[.string x.name, .int .i64 x.rack, .int .i64 x.cap], .slice A i c, .pointer (some ⟨bm, 0, none⟩)] W fun e w' => e = .returned (.bool (machOk m x)) ∧ Below W.heap.size W w' := by
 obtain ⟨c0, c1, c2, c3, c4, c5, c6, c7, c8, c9, c10⟩ := MB.cells hM
 clear c0 c1 c3 c4 c5 c6 c7 c8 c9 c10
 have hlt := hM.lt
 have HB := hide ((Below.refl W.heap.size W).alloc (Nat.le_refl _) (.cells #[.string x.name, .int .i64 x.rack, .int .i64 x.cap] 71))
 have HR := hide (show machOk m x = (exI x.rack m.rT.length && wiI x.cap 0 1048576) from rfl)
 clear hM
 cases e1 : exI x.rack m.rT.length <;> cases e2 : wiI x.cap 0 1048576
 all_goals
  go_enter Tryz.func115, Tryz.ntmps115
  go_wp2_with (first
   | (go_at_call 109; refine (exists_prog _ _ _).mono ?_; rintro e w' ⟨rfl, rfl⟩)
   | (go_at_call 116; refine (amount_prog _ _).mono ?_; rintro e w' ⟨rfl, rfl⟩))
  go_ret
  exact ⟨ret_congr (by rw [HR.out]; simp [*]), HB.out⟩
theorem link_ok (h : MH) (m : Mod) (x : LinkM) (A : Option Addr) (i c : Nat) (pre : List LinkM) (hi : pre.length = i) (hli : i ≤ 9223372036854775807) (bm : Nat) (W : World) (hM : Blk W bm 32 #[.slice h.s m.sT.length h.sc, .slice h.f m.fT.length h.fc, .slice h.r m.rT.length h.rc, .slice h.m m.mT.length h.mc, .slice h.l m.lT.length h.lc, .slice h.i m.iT.length h.ic, .int .i64 m.dT, .int .i64 m.oT, .int .i64 m.vT, .int .i64 m.aT, .slice h.u m.uT.length h.uc]) (hP : Rows encLink 3 W W.heap.size A pre) (_l0 : m.sT.length ≤ 9223372036854775807) :
    Calls Tryz.prog 118 #[.agg #[.int .i64 x.a, .int .i64 x.b, .int .i64 x.cap], .slice A i c, .pointer (some ⟨bm, 0, none⟩)] W fun e w' => e = .returned (.bool (linkOk m x pre)) ∧ Below W.heap.size W w' := by
 subst hi
 obtain ⟨c0, c1, c2, c3, c4, c5, c6, c7, c8, c9, c10⟩ := MB.cells hM
 clear c1 c2 c3 c4 c5 c6 c7 c8 c9 c10
 have hlt := hM.lt
 have hBW := (Below.refl W.heap.size W).alloc (Nat.le_refl _) (.cells #[.int .i64 x.a, .int .i64 x.b, .int .i64 x.cap] 73)
 have HX := hide (Blk.new W 73 #[.int .i64 x.a, .int .i64 x.b, .int .i64 x.cap])
 have HC := hide (containsFunc_Link 119 #[.pointer (some ⟨W.heap.size, 0, none⟩)] (fun _ _ => by kernel_rfl) (fun y => decide (y.a = x.a) && decide (y.b = x.b)) A c pre _ hli (hP.grow hBW) (fun j hj W' hW' => link_same x pre[j] _ W' (HX.out.below hW' (by simp))))
 have HB := hide hBW
 have HR := hide (show linkOk m x pre = (decide (1 ≤ x.a) && decide (x.a < x.b) && decide (x.b ≤ m.sT.length) && wiI x.cap 0 1048576 && !pre.any fun y => decide (y.a = x.a) && decide (y.b = x.b)) from rfl)
 clear hBW hP hM
 generalize (pre.any fun y => decide (y.a = x.a) && decide (y.b = x.b)) = q at HC HR
 by_cases e1 : 1 ≤ x.a
 · by_cases e2 : x.a < x.b
   · by_cases e3 : x.b ≤ (m.sT.length : Int)
     · cases e4 : wiI x.cap 0 1048576
       all_goals
        go_enter Tryz.func118, Tryz.ntmps118
        go_wp2_with (first
         | (go_at_call 116; refine (amount_prog _ _).mono ?_; rintro e w' ⟨rfl, rfl⟩)
         | (go_at_call 120; refine HC.out.mono ?_; rintro e w1 ⟨rfl, hb1⟩))
        go_ret
        exact ⟨ret_congr (by rw [HR.out]; simp [*]), by first | exact HB.out.trans (hb1.mono HB.out.size) | exact HB.out⟩
     · go_enter Tryz.func118, Tryz.ntmps118
       go_wp2_with fail
       go_ret
       exact ⟨ret_congr (by rw [HR.out]; simp; omega), HB.out⟩
   · go_enter Tryz.func118, Tryz.ntmps118
     go_wp2_with fail
     go_ret
     exact ⟨ret_congr (by rw [HR.out]; simp; omega), HB.out⟩
 · go_enter Tryz.func118, Tryz.ntmps118
   go_wp2_with fail
   go_ret
   exact ⟨ret_congr (by rw [HR.out]; simp; omega), HB.out⟩
theorem soundB_all {α : Type} (p : α → Bool) (l : List α) : soundB (fun x _ => p x) l = l.all p := by
 rw [Bool.eq_iff_iff, soundB_iff, List.all_eq_true]
 exact ⟨fun h x hx => by obtain ⟨j, hj, rfl⟩ := List.getElem_of_mem hx; exact h j hj, fun h i hi => h _ (List.getElem_mem _)⟩
theorem siteSizes_eq (m : Mod) : siteSizes m = (exI m.sT.length 4 && decide (m.fT.length ≤ 16) && decide (m.rT.length ≤ 16) && exI m.mT.length 16 && decide (m.lT.length ≤ 12)) := rfl
theorem siteValid_prog (h : MH) (m : Mod) (w : World) (d : MD w w.heap.size h m) (k1 : m.rT.length ≤ h.rc) (k2 : m.mT.length ≤ h.mc) (k3 : m.lT.length ≤ h.lc) :
    Calls Tryz.prog 68 #[.agg #[.slice h.s m.sT.length h.sc, .slice h.f m.fT.length h.fc, .slice h.r m.rT.length h.rc, .slice h.m m.mT.length h.mc, .slice h.l m.lT.length h.lc, .slice h.i m.iT.length h.ic, .int .i64 m.dT, .int .i64 m.oT, .int .i64 m.vT, .int .i64 m.aT, .slice h.u m.uT.length h.uc]] w fun e w' => e = .returned (.bool (siteB m)) ∧ Below w.heap.size w w' := by
 have l0 := d.sl
 have l1 := d.fl
 have l2 := d.rl
 have l3 := d.ml
 have l4 := d.ll
 cases hsz : siteSizes m
 · have HV := hide (siteB_sizes hsz)
   have HZ := hide hsz
   clear hsz d
   cases e1 : exI m.sT.length 4
   · go_enter Tryz.func68, Tryz.ntmps68
     go_wp2_with (go_at_call 109; refine (exists_prog _ _ _).mono ?_; rintro e w' ⟨rfl, rfl⟩)
     go_ret
     exact ⟨ret_congr (by rw [HV.out]; rfl), (Below.refl _ _).alloc (Nat.le_refl _) _⟩
   · cases e2 : exI m.mT.length 16
     · go_enter Tryz.func68, Tryz.ntmps68
       go_wp2_with (go_at_call 109; refine (exists_prog _ _ _).mono ?_; rintro e w' ⟨rfl, rfl⟩)
       all_goals
        go_ret
        exact ⟨ret_congr (by rw [HV.out]; rfl), (Below.refl _ _).alloc (Nat.le_refl _) _⟩
     · have hbad : 16 < m.fT.length ∨ 16 < m.rT.length ∨ 12 < m.lT.length := by
         have := HZ.out
         rw [siteSizes_eq, e1, e2] at this
         simp at this
         omega
       rcases hbad with q | q | q
       all_goals
        go_enter Tryz.func68, Tryz.ntmps68
        go_wp2_with (go_at_call 109; refine (exists_prog _ _ _).mono ?_; rintro e w' ⟨rfl, rfl⟩)
        all_goals
         go_ret
         exact ⟨ret_congr (by rw [HV.out]; rfl), (Below.refl _ _).alloc (Nat.le_refl _) _⟩
 · have HS := hide (siteB_rest hsz)
   obtain ⟨q1, q2, q3, q4, q5, q6, q7⟩ := siteSizes_ok hsz
   have e1 : exI m.sT.length 4 = true := by simp [exI]; omega
   have e2 : exI m.mT.length 16 = true := by simp [exI]; omega
   clear hsz
   have hW0 := MW.start w h m
   have D := hide d; clear d
   have H1 := hide fun (W : World) (hW : MW w w.heap.size W h m) => sound_Rack 111 #[.pointer (some ⟨w.heap.size, 0, none⟩)] (fun _ _ => by kernel_rfl) (rackOk m) h.r h.rc m.rT W l2 k1 (hW.md D.out).dR (fun i hi W' hW' => rack_ok h m m.rT[i] h.r i h.rc (m.rT.take i) (by simp; omega) (by omega) w.heap.size W' (hW.grow hW').blk (((hW.grow hW').md D.out).dR.take_ i) l0 l1)
   have H2 := hide fun (W : World) (hW : MW w w.heap.size W h m) => sound_Machine 115 #[.pointer (some ⟨w.heap.size, 0, none⟩)] (fun _ _ => by kernel_rfl) (fun x _ => machOk m x) h.m h.mc m.mT W l3 k2 (hW.md D.out).dM (fun i hi W' hW' => mach_ok h m m.mT[i] h.m i h.mc w.heap.size W' (hW.grow hW').blk l2)
   have H3 := hide fun (W : World) (hW : MW w w.heap.size W h m) => sound_Link 118 #[.pointer (some ⟨w.heap.size, 0, none⟩)] (fun _ _ => by kernel_rfl) (linkOk m) h.l h.lc m.lT W l4 k3 (hW.md D.out).dL (fun i hi W' hW' => link_ok h m m.lT[i] h.l i h.lc (m.lT.take i) (by simp; omega) (by omega) w.heap.size W' (hW.grow hW').blk (((hW.grow hW').md D.out).dL.take_ i) l0)
   rw [soundB_all] at H2
   have HW0 := hide hW0
   clear hW0
   cases b1 : soundB (rackOk m) m.rT <;> cases b2 : m.mT.all (machOk m) <;> cases b3 : soundB (linkOk m) m.lT
   all_goals
    rw [b1] at H1
    rw [b2] at H2
    rw [b3] at H3
    rw [b1, b2, b3] at HS
    clear b1 b2 b3
    go_enter Tryz.func68, Tryz.ntmps68
    go_wp2_with (first
     | (go_at_call 109; refine (exists_prog _ _ _).mono ?_; rintro e w' ⟨rfl, rfl⟩)
     | (go_at_call 110; refine (H1.out _ HW0.out).mono ?_; rintro e w1 ⟨rfl, hb1⟩; have hW1 := HW0.out.grow hb1; obtain ⟨a0, a1, a2, a3, a4, a5, a6, a7, a8, a9, a10⟩ := MB.cells hW1.blk; have ha := hW1.lt; clear a0 a1 a2 a5 a6 a7 a8 a9 a10 hb1)
     | (go_at_call 114; refine (H2.out _ hW1).mono ?_; rintro e w2 ⟨rfl, hb2⟩; have hW2 := hW1.grow hb2; obtain ⟨d0, d1, d2, d3, d4, d5, d6, d7, d8, d9, d10⟩ := MB.cells hW2.blk; have hd := hW2.lt; clear d0 d1 d2 d3 d5 d6 d7 d8 d9 d10 hb2)
     | (go_at_call 117; refine (H3.out _ hW2).mono ?_; rintro e w3 ⟨rfl, hb3⟩; have hW3 := hW2.grow hb3))
    go_ret
    exact ⟨ret_congr (by rw [HS.out]; rfl), hW3.b⟩
theorem below_drewN (w : World) (n : Nat) : Below w.heap.size w (w.drewN n) := by
 induction n with
 | zero => exact Below.refl _ _
 | succ n ih => exact ih.drew
theorem equal_ints (A1 A2 : Option Addr) (c1 c2 : Nat) (l m : List Int) (w : World) (h1 : Ints w w.heap.size A1 l) (h2 : Ints w w.heap.size A2 m) (hl : l.length ≤ 9223372036854775807) (hm : m.length ≤ 9223372036854775807) :
    Calls Tryz.prog 198 #[.slice A1 l.length c1, .slice A2 m.length c2] w fun e w' => e = .returned (.bool (decide (l = m))) ∧ Below w.heap.size w w' := by
 by_cases hlen : l.length = m.length
 · by_cases hn : l = []
   · subst hn
     have hm0 : m = [] := List.eq_nil_of_length_eq_zero hlen.symm
     subst hm0
     exact (Tryz.slices_Equal_int_empty A1 A2 c1 0 c2 w (by simp)).mono fun e w' ⟨he, hw⟩ => ⟨by rw [he]; rfl, hw ▸ Below.refl _ _⟩
   · have hn2 : m ≠ [] := by intro h; subst h; exact hn (List.eq_nil_of_length_eq_zero hlen)
     obtain ⟨b1, o1, rfl, hb1, hc1⟩ := h1.form hn
     obtain ⟨b2, o2, rfl, hb2, hc2⟩ := h2.form hn2
     refine (Tryz.slices_Equal_int b1 o1 l.length c1 b2 o2 m.length c2 l m w (Nat.le_refl _) (Nat.le_refl _) hl hm hc1 hc2).mono fun e w' ⟨he, q, hw⟩ => ⟨?_, hw ▸ below_drewN w q⟩
     rw [he, List.take_length, List.take_length]
     congr 2
     rw [Bool.eq_iff_iff]; simp
 · refine (Tryz.slices_Equal_int_lens A1 A2 l.length c1 m.length c2 w hlen).mono fun e w' ⟨he, hw⟩ => ⟨?_, hw ▸ Below.refl _ _⟩
   have : ¬ l = m := fun h => hlen (by rw [h])
   rw [he]; simp [this]
theorem Ints.newRow (w : World) (t : TypeId) (l : List Int) : Ints (w.alloc (.cells (l.map (Value.int .i64)).toArray t)) (w.heap.size + 1) (some ⟨w.heap.size, 0, none⟩) l := by
 have := Reads.newRow w (l.map (Value.int .i64)).toArray t l.length 1 (by simp)
 simpa [Ints] using this
theorem contains_ints (A : Option Addr) (c : Nat) (l : List Int) (s : Int) (w : World) (hl : l.length ≤ 9223372036854775807) (h : Ints w w.heap.size A l) :
    Calls Tryz.prog 85 #[.slice A l.length c, .int .i64 s] w fun e w' => e = .returned (.bool (decide (s ∈ l))) ∧ w = w' := by
 by_cases hn : l = []
 · subst hn
   exact (Tryz.slices_Contains_int_empty A c s w).mono fun e w' ⟨he, hw⟩ => ⟨by rw [he]; rfl, hw.symm⟩
 · obtain ⟨b, off, rfl, hb, hc⟩ := h.form hn
   refine (Tryz.slices_Contains_int b off l.length c l s w (Nat.le_refl _) hl hc).mono fun e w' ⟨he, hw⟩ => ⟨?_, hw.symm⟩
   rw [he, List.take_length]
   simp
theorem incB_false {nm : Int} {l : List Int} {k : Nat} (hk : k < l.length) (h : exI l[k] nm = false ∨ (0 < k ∧ l[k] ≤ l.getD (k - 1) 0)) : incB nm l = false := by
 unfold incB
 rw [Bool.and_eq_false_iff]
 refine .inr ?_
 rw [decide_eq_false_iff_not]
 intro hh
 obtain ⟨h1, h2⟩ := hh k hk
 rcases h with h | ⟨h3, h4⟩
 · rw [h] at h1; cases h1
 · have := h2 h3; omega
theorem incB_end {nm : Int} {l : List Int} (h : ∀ j (hj : j < l.length), j < l.length → exI l[j] nm = true ∧ (0 < j → l.getD (j - 1) 0 < l[j])) : incB nm l = decide (0 < l.length) := by
 unfold incB
 rw [decide_eq_true (p := ∀ i (h : i < l.length), exI l[i] nm = true ∧ (0 < i → l.getD (i - 1) 0 < l[i])) fun i hi => h i hi hi, Bool.and_true]
theorem machines15_ref (h : MH) (m : Mod) (A : Option Addr) (c : Nat) (l : List Int) (w : World) (hl : l.length ≤ 9223372036854775807) (hI : Ints w w.heap.size A l) :
    Calls Tryz.prog 91 #[.agg #[.slice h.s m.sT.length h.sc, .slice h.f m.fT.length h.fc, .slice h.r m.rT.length h.rc, .slice h.m m.mT.length h.mc, .slice h.l m.lT.length h.lc, .slice h.i m.iT.length h.ic, .int .i64 m.dT, .int .i64 m.oT, .int .i64 m.vT, .int .i64 m.aT, .slice h.u m.uT.length h.uc], .slice A l.length c] w fun e w' => e = .returned (.bool (incB m.mT.length l)) ∧ Below w.heap.size w w' := by
 go_enter Tryz.func91, Tryz.ntmps91
 go_wp2_with fail
 go_loopw [5] (fun i wr => ∃ k : Nat, k ≤ l.length ∧ i = .int .i64 k ∧ Hid (MW w w.heap.size wr h m) ∧ Hid (∀ j (hj : j < l.length), j < k → exI l[j] m.mT.length = true ∧ (0 < j → l.getD (j - 1) 0 < l[j]))) (fun i _ => l.length - (intOf i).toNat)
 case atStart => exact ⟨0, Nat.zero_le _, rfl, MW.start w h m, fun j hj h0 => absurd h0 (by omega)⟩
 case round =>
  obtain ⟨k, hk, rfl, hW, hs⟩ := hrel
  have hL1 := hW.out.lt
  by_cases hlt : k < l.length
  · have hltI : (k : Int) < (l.length : Int) := by omega
    obtain ⟨a0, a1, a2, a3, a4, a5, a6, a7, a8, a9, a10⟩ := MB.cells hW.out.blk
    clear a0 a1 a2 a4 a5 a6 a7 a8 a9 a10
    obtain ⟨b, off, hA, hb, x0⟩ := int_at (hI.grow hW.out.b) hlt
    subst hA
    cases e1 : exI l[k] m.mT.length
    · have HV := hide (incB_false (nm := m.mT.length) hlt (.inl e1))
      go_wp2_with fail
      go_quiet ((go_at_call 45; exact quiet_left (exists_ref _ _ _)))
      go_wp2_with fail
      go_ret
      exact ⟨ret_congr (by rw [HV.out]; rfl), (hW.out.drewN _).b⟩
    by_cases hk0 : k = 0
    · have hk0I : decide (0 < k) = false := by simp [hk0]
      have HK := hide (show exI l[k] m.mT.length = true ∧ (0 < k → l.getD (k - 1) 0 < l[k]) from ⟨e1, fun h => by omega⟩)
      have HK0 := hide hk0
      clear hk0
      go_wp2_with fail
      go_quiet ((go_at_call 45; exact quiet_left (exists_ref _ _ _)))
      go_wp2_with fail
      go_roundw
      case rel => exact ⟨k + 1, by omega, by go_num, hide (hW.out.drewN _), fun q hq' h1 => by
       rcases Nat.lt_or_ge q k with h2 | h2
       · exact hs q hq' h2
       · obtain rfl : q = k := by omega
         exact HK⟩
      case measure => simp [intOf]; omega
    · obtain ⟨j, rfl⟩ : ∃ j, k = j + 1 := ⟨k - 1, by omega⟩
      obtain ⟨b', off', hA', _, x1⟩ := int_at (hI.grow hW.out.b) (k := j) (by omega)
      injection hA' with hA'
      injection hA' with hA1 hA2
      subst hA1
      subst hA2
      have hw1 : IntKind.i64.wrap ((j + 1 : Nat) - 1 : Int) = (j : Int) := by rw [IntWalk.i64_in _ (by omega)]; omega
      have hjI : (j : Int) < (l.length : Int) := by omega
      have hg : l.getD (j + 1 - 1) 0 = l[j] := by simp [List.getD, show j < l.length by omega]
      by_cases e2 : l[j + 1] ≤ l[j]
      · have HV := hide (incB_false (nm := m.mT.length) hlt (.inr ⟨by omega, by rw [hg]; exact e2⟩))
        clear hg
        go_wp2_with fail
        go_quiet ((go_at_call 45; exact quiet_left (exists_ref _ _ _)))
        go_wp2_with fail
        go_ret
        exact ⟨ret_congr (by rw [HV.out]; rfl), (hW.out.drewN _).b⟩
      · have HK := hide (show exI l[j + 1] m.mT.length = true ∧ (0 < j + 1 → l.getD (j + 1 - 1) 0 < l[j + 1]) from ⟨e1, fun h => by rw [hg]; omega⟩)
        clear hg
        go_wp2_with fail
        go_quiet ((go_at_call 45; exact quiet_left (exists_ref _ _ _)))
        go_wp2_with fail
        go_roundw
        case rel => exact ⟨j + 1 + 1, by omega, by go_num, hide (hW.out.drewN _), fun q hq' h1 => by
         rcases Nat.lt_or_ge q (j + 1) with h2 | h2
         · exact hs q hq' h2
         · obtain rfl : q = j + 1 := by omega
           exact HK⟩
        case measure => simp [intOf]; omega
  · have HV := hide (incB_end (nm := m.mT.length) fun q hq _ => hs.out q hq (by omega))
    go_wp2_with fail
    go_ret
    exact ⟨ret_congr (by rw [HV.out]; rfl), hW.out.b⟩
end Go.Proofs.YtcfogipaadhbeaaGreatDoor
