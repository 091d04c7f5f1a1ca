/- The walk of site.Valid: whether the site part of a model is valid. Conditions: lengths that fit memory. Maps with int keys that the program builds from a literal: insert, lookup. Plain facts about the model's maps. Conditions: none. -/
import Derived.Test.YtpggamapmgpjcaaGreatDoorK07
import Derived.Test.YtpggamapmgpjcaaGreatDoorK05
import Derived.Test.YtpggamapmgpjcaaGreatDoorK01

namespace Go.Proofs.YtpggamapmgpjcaaGreatDoor
open Go Go.RowKit Go.Proofs

set_option maxHeartbeats 400000 in
theorem exists_prog (n l : Int) (w : World) : Calls Tryz.prog 66 #[.int .i64 n, .int .i64 l] w fun e w' => e = .returned (.bool (exI n l)) ∧ w = w' := by
  by_cases h1 : 1 ≤ n <;> by_cases h2 : n ≤ l
  all_goals
    have hL : exI n l = (decide (1 ≤ n) && decide (n ≤ l)) := rfl
    have HL := hide hL; clear hL
    go_enter Tryz.func66, Tryz.ntmps66
    go_wp2
    go_ret
    exact ⟨ret_congr (by rw [HL.out]; simp [*]), rfl⟩
set_option maxHeartbeats 400000 in
theorem amount_prog (n : Int) (w : World) : Calls Tryz.prog 73 #[.int .i64 n] w fun e w' => e = .returned (.bool (wiI n 0 1048576)) ∧ w = w' := by
  by_cases h1 : 0 ≤ n <;> by_cases h2 : n ≤ 1048576
  all_goals
    have hL : wiI n 0 1048576 = (decide (0 ≤ n) && decide (n ≤ 1048576)) := rfl
    have HL := hide hL; clear hL
    go_enter Tryz.func73, Tryz.ntmps73
    go_wp2
    go_ret
    exact ⟨ret_congr (by rw [HL.out]; simp [*]), rfl⟩
set_option maxHeartbeats 1000000 in
theorem rack_other (x y : RackM) (bx : Nat) (W : World) (hX : Blk W bx 84 #[.string x.name, .int .i64 x.site, .int .i64 x.feed]) :
    Calls Tryz.prog 69 #[.agg #[.string y.name, .int .i64 y.site, .int .i64 y.feed], .pointer (some ⟨bx, 0, none⟩)] W fun e w' => e = .returned (.bool (decide (y.feed = x.feed) && decide (y.site ≠ x.site))) ∧ Below W.heap.size W w' := by
  have x1 := hX.cell 1
  have x2 := hX.cell 2
  have hlt := hX.lt
  simp at x1 x2
  by_cases f1 : y.feed = x.feed
  · have g1 : (y.feed == x.feed) = true := by simpa using f1
    by_cases f2 : y.site = x.site
    · have g2 : (y.site != x.site) = false := by simpa using f2
      have HV := hide (show (decide (y.feed = x.feed) && decide (y.site ≠ x.site)) = false by simp [f2])
      clear f1 f2
      go_enter Tryz.func69, Tryz.ntmps69
      go_wp2_with fail
      go_ret
      exact ⟨ret_congr (by rw [HV.out]; rfl), (Below.refl _ _).alloc (Nat.le_refl _) _⟩
    · have g2 : (y.site != x.site) = true := by simpa using f2
      have HV := hide (show (decide (y.feed = x.feed) && decide (y.site ≠ x.site)) = true by simp [f1, f2])
      clear f1 f2
      go_enter Tryz.func69, Tryz.ntmps69
      go_wp2_with fail
      go_ret
      exact ⟨ret_congr (by rw [HV.out]; rfl), (Below.refl _ _).alloc (Nat.le_refl _) _⟩
  · have g1 : (y.feed == x.feed) = false := by simpa using f1
    have HV := hide (show (decide (y.feed = x.feed) && decide (y.site ≠ x.site)) = false by simp [f1])
    clear f1
    go_enter Tryz.func69, Tryz.ntmps69
    go_wp2_with fail
    go_ret
    exact ⟨ret_congr (by rw [HV.out]; rfl), (Below.refl _ _).alloc (Nat.le_refl _) _⟩
set_option maxHeartbeats 1000000 in
theorem link_same (x y : LinkM) (bx : Nat) (W : World) (hX : Blk W bx 88 #[.int .i64 x.a, .int .i64 x.b, .int .i64 x.cap]) :
    Calls Tryz.prog 76 #[.agg #[.int .i64 y.a, .int .i64 y.b, .int .i64 y.cap], .pointer (some ⟨bx, 0, none⟩)] W fun e w' => e = .returned (.bool (decide (y.a = x.a) && decide (y.b = x.b))) ∧ Below W.heap.size W w' := by
  have x1 := hX.cell 0
  have x2 := hX.cell 1
  have hlt := hX.lt
  simp at x1 x2
  by_cases f1 : y.a = x.a
  · have g1 : (y.a == x.a) = true := by simpa using f1
    by_cases f2 : y.b = x.b
    · have g2 : (y.b == x.b) = true := by simpa using f2
      have HV := hide (show (decide (y.a = x.a) && decide (y.b = x.b)) = true by simp [f1, f2])
      clear f1 f2
      go_enter Tryz.func76, Tryz.ntmps76
      go_wp2_with fail
      go_ret
      exact ⟨ret_congr (by rw [HV.out]; rfl), (Below.refl _ _).alloc (Nat.le_refl _) _⟩
    · have g2 : (y.b == x.b) = false := by simpa using f2
      have HV := hide (show (decide (y.a = x.a) && decide (y.b = x.b)) = false by simp [f2])
      clear f1 f2
      go_enter Tryz.func76, Tryz.ntmps76
      go_wp2_with fail
      go_ret
      exact ⟨ret_congr (by rw [HV.out]; rfl), (Below.refl _ _).alloc (Nat.le_refl _) _⟩
  · have g1 : (y.a == x.a) = false := by simpa using f1
    have HV := hide (show (decide (y.a = x.a) && decide (y.b = x.b)) = false by simp [f1])
    clear f1
    go_enter Tryz.func76, Tryz.ntmps76
    go_wp2_with fail
    go_ret
    exact ⟨ret_congr (by rw [HV.out]; rfl), (Below.refl _ _).alloc (Nat.le_refl _) _⟩

set_option maxRecDepth 100000 in
set_option maxHeartbeats 2000000 in
theorem rack_ok (h : MH) (m : Mod) (x : RackM) (A : Option Addr) (i c : Nat) (pre : List RackM) (hi : pre.length = i) (hli : i ≤ 9223372036854775807) (bm : Nat) (W : World) (hM : Blk W bm 29 #[.slice h.s m.sites.length h.sc, .slice h.f m.feeds.length h.fc, .slice h.r m.racks.length h.rc, .slice h.m m.machs.length h.mc, .slice h.l m.links.length h.lc, .slice h.i m.items.length h.ic, .int .i64 m.dark, .int .i64 m.slots, .int .i64 m.reserve, .int .i64 m.failures, .slice h.u m.rules.length h.uc]) (hP : Rows encRack 3 W W.heap.size A pre) (_l0 : m.sites.length ≤ 9223372036854775807) (_l1 : m.feeds.length ≤ 9223372036854775807) :
    Calls Tryz.prog 68 #[.agg #[.string x.name, .int .i64 x.site, .int .i64 x.feed], .slice A i c, .pointer (some ⟨bm, 0, none⟩)] W fun e w' => e = .returned (.bool (rackOk m x pre)) ∧ Below W.heap.size W w' := by
  subst hi
  obtain ⟨c0, c1, c2, c3, c4, c5, c6, c7, c8, c9, c10⟩ := MB.cells hM
  clear c2 c3 c4 c5 c6 c7 c8 c9 c10
  have hlt := hM.lt
  have hBW := (Below.refl W.heap.size W).alloc (Nat.le_refl _) (.cells #[.string x.name, .int .i64 x.site, .int .i64 x.feed] 84)
  have HX := hide (Blk.new W 84 #[.string x.name, .int .i64 x.site, .int .i64 x.feed])
  have HC := hide (containsFunc_Rack 69 #[.pointer (some ⟨W.heap.size, 0, none⟩)] (fun _ _ => by kernel_rfl) (fun y => decide (y.feed = x.feed) && decide (y.site ≠ x.site)) A c pre _ hli (hP.grow hBW) (fun j hj W' hW' => rack_other x pre[j] _ W' (HX.out.below hW' (by simp))))
  have HB := hide hBW
  have hR := show rackOk m x pre = (exI x.site m.sites.length && exI x.feed m.feeds.length && !pre.any fun y => decide (y.feed = x.feed) && decide (y.site ≠ x.site)) from rfl
  have HR := hide hR
  clear hBW hP hM hR
  generalize (pre.any fun y => decide (y.feed = x.feed) && decide (y.site ≠ x.site)) = q at HC HR
  cases e1 : exI x.site m.sites.length <;> cases e2 : exI x.feed m.feeds.length
  all_goals
    go_enter Tryz.func68, Tryz.ntmps68
    go_wp2_with (first
      | (go_at_call 66; refine (exists_prog _ _ _).mono ?_; rintro e w' ⟨rfl, rfl⟩)
      | (go_at_call 70; refine HC.out.mono ?_; rintro e w1 ⟨rfl, hb1⟩))
    go_ret
    exact ⟨ret_congr (by rw [HR.out]; simp [*]), by first | exact HB.out.trans (hb1.mono HB.out.size) | exact HB.out⟩
set_option maxRecDepth 100000 in
set_option maxHeartbeats 2000000 in
theorem mach_ok (h : MH) (m : Mod) (x : MachM) (A : Option Addr) (i c : Nat) (bm : Nat) (W : World) (hM : Blk W bm 29 #[.slice h.s m.sites.length h.sc, .slice h.f m.feeds.length h.fc, .slice h.r m.racks.length h.rc, .slice h.m m.machs.length h.mc, .slice h.l m.links.length h.lc, .slice h.i m.items.length h.ic, .int .i64 m.dark, .int .i64 m.slots, .int .i64 m.reserve, .int .i64 m.failures, .slice h.u m.rules.length h.uc]) (_l0 : m.racks.length ≤ 9223372036854775807) :
    Calls Tryz.prog 72 #[.agg #[.string x.name, .int .i64 x.rack, .int .i64 x.cap], .slice A i c, .pointer (some ⟨bm, 0, none⟩)] W fun e w' => e = .returned (.bool (machOk m x)) ∧ Below W.heap.size W w' := by
  obtain ⟨c0, c1, c2, c3, c4, c5, c6, c7, c8, c9, c10⟩ := MB.cells hM
  clear c0 c1 c3 c4 c5 c6 c7 c8 c9 c10
  have hlt := hM.lt
  have HB := hide ((Below.refl W.heap.size W).alloc (Nat.le_refl _) (.cells #[.string x.name, .int .i64 x.rack, .int .i64 x.cap] 86))
  have HR := hide (show machOk m x = (exI x.rack m.racks.length && wiI x.cap 0 1048576) from rfl)
  clear hM
  cases e1 : exI x.rack m.racks.length <;> cases e2 : wiI x.cap 0 1048576
  all_goals
    go_enter Tryz.func72, Tryz.ntmps72
    go_wp2_with (first
      | (go_at_call 66; refine (exists_prog _ _ _).mono ?_; rintro e w' ⟨rfl, rfl⟩)
      | (go_at_call 73; refine (amount_prog _ _).mono ?_; rintro e w' ⟨rfl, rfl⟩))
    go_ret
    exact ⟨ret_congr (by rw [HR.out]; simp [*]), HB.out⟩
set_option maxRecDepth 100000 in
set_option maxHeartbeats 2000000 in
theorem link_ok (h : MH) (m : Mod) (x : LinkM) (A : Option Addr) (i c : Nat) (pre : List LinkM) (hi : pre.length = i) (hli : i ≤ 9223372036854775807) (bm : Nat) (W : World) (hM : Blk W bm 29 #[.slice h.s m.sites.length h.sc, .slice h.f m.feeds.length h.fc, .slice h.r m.racks.length h.rc, .slice h.m m.machs.length h.mc, .slice h.l m.links.length h.lc, .slice h.i m.items.length h.ic, .int .i64 m.dark, .int .i64 m.slots, .int .i64 m.reserve, .int .i64 m.failures, .slice h.u m.rules.length h.uc]) (hP : Rows encLink 3 W W.heap.size A pre) (_l0 : m.sites.length ≤ 9223372036854775807) :
    Calls Tryz.prog 75 #[.agg #[.int .i64 x.a, .int .i64 x.b, .int .i64 x.cap], .slice A i c, .pointer (some ⟨bm, 0, none⟩)] W fun e w' => e = .returned (.bool (linkOk m x pre)) ∧ Below W.heap.size W w' := by
  subst hi
  obtain ⟨c0, c1, c2, c3, c4, c5, c6, c7, c8, c9, c10⟩ := MB.cells hM
  clear c1 c2 c3 c4 c5 c6 c7 c8 c9 c10
  have hlt := hM.lt
  have hBW := (Below.refl W.heap.size W).alloc (Nat.le_refl _) (.cells #[.int .i64 x.a, .int .i64 x.b, .int .i64 x.cap] 88)
  have HX := hide (Blk.new W 88 #[.int .i64 x.a, .int .i64 x.b, .int .i64 x.cap])
  have HC := hide (containsFunc_Link 76 #[.pointer (some ⟨W.heap.size, 0, none⟩)] (fun _ _ => by kernel_rfl) (fun y => decide (y.a = x.a) && decide (y.b = x.b)) A c pre _ hli (hP.grow hBW) (fun j hj W' hW' => link_same x pre[j] _ W' (HX.out.below hW' (by simp))))
  have HB := hide hBW
  have HR := hide (show linkOk m x pre = (decide (1 ≤ x.a) && decide (x.a < x.b) && decide (x.b ≤ m.sites.length) && wiI x.cap 0 1048576 && !pre.any fun y => decide (y.a = x.a) && decide (y.b = x.b)) from rfl)
  clear hBW hP hM
  generalize (pre.any fun y => decide (y.a = x.a) && decide (y.b = x.b)) = q at HC HR
  by_cases e1 : 1 ≤ x.a
  · by_cases e2 : x.a < x.b
    · by_cases e3 : x.b ≤ (m.sites.length : Int)
      · cases e4 : wiI x.cap 0 1048576
        all_goals
          go_enter Tryz.func75, Tryz.ntmps75
          go_wp2_with (first
            | (go_at_call 73; refine (amount_prog _ _).mono ?_; rintro e w' ⟨rfl, rfl⟩)
            | (go_at_call 77; refine HC.out.mono ?_; rintro e w1 ⟨rfl, hb1⟩))
          go_ret
          exact ⟨ret_congr (by rw [HR.out]; simp [*]), by first | exact HB.out.trans (hb1.mono HB.out.size) | exact HB.out⟩
      · go_enter Tryz.func75, Tryz.ntmps75
        go_wp2_with fail
        go_ret
        exact ⟨ret_congr (by rw [HR.out]; simp; omega), HB.out⟩
    · go_enter Tryz.func75, Tryz.ntmps75
      go_wp2_with fail
      go_ret
      exact ⟨ret_congr (by rw [HR.out]; simp; omega), HB.out⟩
  · go_enter Tryz.func75, Tryz.ntmps75
    go_wp2_with fail
    go_ret
    exact ⟨ret_congr (by rw [HR.out]; simp; omega), HB.out⟩

theorem soundB_all {α : Type} (p : α → Bool) (l : List α) : soundB (fun x _ => p x) l = l.all p := by
  rw [Bool.eq_iff_iff, soundB_iff, List.all_eq_true]
  exact ⟨fun h x hx => by obtain ⟨j, hj, rfl⟩ := List.getElem_of_mem hx; exact h j hj, fun h i hi => h _ (List.getElem_mem _)⟩
theorem siteSizes_eq (m : Mod) : siteSizes m = (exI m.sites.length 4 && decide (m.feeds.length ≤ 16) && decide (m.racks.length ≤ 16) && exI m.machs.length 16 && decide (m.links.length ≤ 12)) := rfl
set_option maxRecDepth 100000 in
set_option maxHeartbeats 8000000 in
theorem siteValid_prog (h : MH) (m : Mod) (w : World) (d : MD w w.heap.size h m) (k1 : m.racks.length ≤ h.rc) (k2 : m.machs.length ≤ h.mc) (k3 : m.links.length ≤ h.lc) :
    Calls Tryz.prog 42 #[.agg #[.slice h.s m.sites.length h.sc, .slice h.f m.feeds.length h.fc, .slice h.r m.racks.length h.rc, .slice h.m m.machs.length h.mc, .slice h.l m.links.length h.lc, .slice h.i m.items.length h.ic, .int .i64 m.dark, .int .i64 m.slots, .int .i64 m.reserve, .int .i64 m.failures, .slice h.u m.rules.length h.uc]] w fun e w' => e = .returned (.bool (siteB m)) ∧ Below w.heap.size w w' := by
  have l0 := d.sl
  have l1 := d.fl
  have l2 := d.rl
  have l3 := d.ml
  have l4 := d.ll
  cases hsz : siteSizes m
  · have HV := hide (siteB_sizes hsz)
    have HZ := hide hsz
    clear hsz d
    cases e1 : exI m.sites.length 4
    · go_enter Tryz.func42, Tryz.ntmps42
      go_wp2_with (go_at_call 66; refine (exists_prog _ _ _).mono ?_; rintro e w' ⟨rfl, rfl⟩)
      go_ret
      exact ⟨ret_congr (by rw [HV.out]; rfl), (Below.refl _ _).alloc (Nat.le_refl _) _⟩
    · cases e2 : exI m.machs.length 16
      · go_enter Tryz.func42, Tryz.ntmps42
        go_wp2_with (go_at_call 66; refine (exists_prog _ _ _).mono ?_; rintro e w' ⟨rfl, rfl⟩)
        all_goals
          go_ret
          exact ⟨ret_congr (by rw [HV.out]; rfl), (Below.refl _ _).alloc (Nat.le_refl _) _⟩
      · have hbad : 16 < m.feeds.length ∨ 16 < m.racks.length ∨ 12 < m.links.length := by
          have := HZ.out
          rw [siteSizes_eq, e1, e2] at this
          simp at this
          omega
        rcases hbad with q | q | q
        all_goals
          go_enter Tryz.func42, Tryz.ntmps42
          go_wp2_with (go_at_call 66; refine (exists_prog _ _ _).mono ?_; rintro e w' ⟨rfl, rfl⟩)
          all_goals
            go_ret
            exact ⟨ret_congr (by rw [HV.out]; rfl), (Below.refl _ _).alloc (Nat.le_refl _) _⟩
  · have HS := hide (siteB_rest hsz)
    obtain ⟨q1, q2, q3, q4, q5, q6, q7⟩ := siteSizes_ok hsz
    have e1 : exI m.sites.length 4 = true := by simp [exI]; omega
    have e2 : exI m.machs.length 16 = true := by simp [exI]; omega
    clear hsz
    have hW0 := MW.start w h m
    have D := hide d; clear d
    have H1 := hide fun (W : World) (hW : MW w w.heap.size W h m) => sound_Rack 68 #[.pointer (some ⟨w.heap.size, 0, none⟩)] (fun _ _ => by kernel_rfl) (rackOk m) h.r h.rc m.racks W l2 k1 (hW.md D.out).dR (fun i hi W' hW' => rack_ok h m m.racks[i] h.r i h.rc (m.racks.take i) (by simp; omega) (by omega) w.heap.size W' (hW.grow hW').blk (((hW.grow hW').md D.out).dR.take_ i) l0 l1)
    have H2 := hide fun (W : World) (hW : MW w w.heap.size W h m) => sound_Machine 72 #[.pointer (some ⟨w.heap.size, 0, none⟩)] (fun _ _ => by kernel_rfl) (fun x _ => machOk m x) h.m h.mc m.machs W l3 k2 (hW.md D.out).dM (fun i hi W' hW' => mach_ok h m m.machs[i] h.m i h.mc w.heap.size W' (hW.grow hW').blk l2)
    have H3 := hide fun (W : World) (hW : MW w w.heap.size W h m) => sound_Link 75 #[.pointer (some ⟨w.heap.size, 0, none⟩)] (fun _ _ => by kernel_rfl) (linkOk m) h.l h.lc m.links W l4 k3 (hW.md D.out).dL (fun i hi W' hW' => link_ok h m m.links[i] h.l i h.lc (m.links.take i) (by simp; omega) (by omega) w.heap.size W' (hW.grow hW').blk (((hW.grow hW').md D.out).dL.take_ i) l0)
    rw [soundB_all] at H2
    have HW0 := hide hW0
    clear hW0
    cases b1 : soundB (rackOk m) m.racks <;> cases b2 : m.machs.all (machOk m) <;> cases b3 : soundB (linkOk m) m.links
    all_goals
      rw [b1] at H1
      rw [b2] at H2
      rw [b3] at H3
      rw [b1, b2, b3] at HS
      clear b1 b2 b3
      go_enter Tryz.func42, Tryz.ntmps42
      go_wp2_with (first
        | (go_at_call 66; refine (exists_prog _ _ _).mono ?_; rintro e w' ⟨rfl, rfl⟩)
        | (go_at_call 67; refine (H1.out _ HW0.out).mono ?_; rintro e w1 ⟨rfl, hb1⟩; have hW1 := HW0.out.grow hb1; obtain ⟨a0, a1, a2, a3, a4, a5, a6, a7, a8, a9, a10⟩ := MB.cells hW1.blk; have ha := hW1.lt; clear a0 a1 a2 a5 a6 a7 a8 a9 a10 hb1)
        | (go_at_call 71; refine (H2.out _ hW1).mono ?_; rintro e w2 ⟨rfl, hb2⟩; have hW2 := hW1.grow hb2; obtain ⟨d0, d1, d2, d3, d4, d5, d6, d7, d8, d9, d10⟩ := MB.cells hW2.blk; have hd := hW2.lt; clear d0 d1 d2 d3 d5 d6 d7 d8 d9 d10 hb2)
        | (go_at_call 74; refine (H3.out _ hW2).mono ?_; rintro e w3 ⟨rfl, hb3⟩; have hW3 := hW2.grow hb3))
      go_ret
      exact ⟨ret_congr (by rw [HS.out]; rfl), hW3.b⟩
end Go.Proofs.YtpggamapmgpjcaaGreatDoor

namespace Go.Proofs.YtpggamapmgpjcaaGreatDoor
open Go Go.RowKit

theorem checkKey_int {P : Program} {K : TypeId} {kd : IntKind} (hk : P.underlying K = some (.int kd)) (e : Bool) (n : Nat) (k : Int) (w : World) :
    (Instr.checkKey e (n + 1) K (.int kd k)).run P w = .ok () w := by
  unfold Instr.checkKey
  simp [Sem.run_bind, run_underlying hk]
theorem run_findKey_int {P : Program} {K : TypeId} (hk : P.underlying K = some (.int .i64)) (k : Int) (es : List MapEntry) {r : Option (Nat × Value)} (hf : Instr.findNow (.int .i64) (.int .i64 k) es 0 = some r) (w : World) :
    (Instr.findKey K (.int .i64 k) es).run P w = .ok r w := by
  unfold Instr.findKey
  simp [Sem.run_bind, run_underlying hk, hf]
theorem getObj_run {P : Program} {w : World} {r : Nat} {es : Array MapEntry} {c : Nat} (h : w.heap[r]? = some (.map es c)) : (getObj r).run P w = .ok (.map es c) w := by simp [getObj, Sem.run, h]
theorem setObj_last {P : Program} {w : World} {es : Array MapEntry} {c : Nat} (o : Obj) : (setObj w.heap.size o).run P (w.alloc (.map es c)) = .ok () (w.alloc o) := by
  have hg : (w.alloc (.map es c)).heap[w.heap.size]? = some (.map es c) := heap_alloc_new w _
  simp only [setObj, Sem.run, hg]
  have : (w.alloc (.map es c)).heap.setIfInBounds w.heap.size o = (w.alloc o).heap := by
    show (w.heap.push (.map es c)).setIfInBounds w.heap.size o = w.heap.push o
    apply Array.ext'
    simp
  rw [this]; rfl
theorem run_insert_new {P : Program} {w : World} {t K E : TypeId} {es : Array MapEntry} {c : Nat} {k : Int} {v : Value}
    (ht : P.underlying t = some (.map K E)) (hk : P.underlying K = some (.int .i64)) (hf : Instr.findNow (.int .i64) (.int .i64 k) es.toList 0 = some none) :
    (Instr.mapUpdate t (.map (some w.heap.size)) (.int .i64 k) v).run P (w.alloc (.map es c)) = .ok () (w.alloc (.map (es.push { key := .int .i64 k, val := v, born := c }) (c + 1))) := by
  have hg : (w.alloc (.map es c)).heap[w.heap.size]? = some (.map es c) := heap_alloc_new w _
  unfold Instr.mapUpdate
  simp [Sem.run_bind, run_underlying ht, getObj_run hg, checkKey_int hk, run_findKey_int hk k es.toList hf, setObj_last]
def pickO (o : Option (Nat × Value)) (z : Value) : Value × Bool := match o with | some (_, x) => (x, true) | none => (z, false)
theorem run_lookup_int {P : Program} {w : World} {t K E : TypeId} {r : Nat} {es : Array MapEntry} {c : Nat} {k : Int} {v z : Value} {b : Bool} {o : Option (Nat × Value)}
    (ht : P.underlying t = some (.map K E)) (hk : P.underlying K = some (.int .i64)) (hz : (zeroValue E).run P w = .ok z w) (hg : w.heap[r]? = some (.map es c))
    (hf : Instr.findNow (.int .i64) (.int .i64 k) es.toList 0 = some o) (hv : pickO o z = (v, b)) :
    (Instr.lookup t (.map (some r)) (.int .i64 k) true).run P w = .ok (.tuple #[v, .bool b]) w := by
  unfold Instr.lookup
  simp [Sem.run_bind, run_underlying ht, getObj_run hg, checkKey_int hk, run_findKey_int hk k es.toList hf]
  cases o with
  | none => simp [pickO] at hv; simp [hz, hv]
  | some x => simp [pickO] at hv; simp [hv]
theorem wpList_insert_new {P : Program} {ops : Array Oper} {rest : List Oper} {o : Oper} {a : Act} {Q : Exit → Act → World → Prop} {w w0 : World} (hgd : o.guard = none) (hd : o.dst = none) (t : TypeId) (m k v : Operand)
    (ho : o.op = .insert t m k v) {K E : TypeId} (ht : P.underlying t = some (.map K E)) (hk : P.underlying K = some (.int .i64)) {es : Array MapEntry} {c : Nat} {kk : Int} {vv : Value}
    {r : Nat} (hw : w = w0.alloc (.map es c)) (hm : a.eval m = .map (some r)) (hr : r = w0.heap.size) (hkv : a.eval k = .int .i64 kk) (hv : a.eval v = vv) (hf : Instr.findNow (.int .i64) (.int .i64 kk) es.toList 0 = some none)
    (h : wpList P ops Q rest a (w0.alloc (.map (es.push { key := .int .i64 kk, val := vv, born := c }) (c + 1)))) : wpList P ops Q (o :: rest) a w :=
  wpList_plain hgd fun K' hK => by
    subst hw
    subst hr
    unfold Oper.wp execOp
    simp only [ho, hm, hkv, hv, Sem.run_bind, run_insert_new ht hk hf, Result.andThen_ok, Sem.run_pure, Oper.upon_skip, hd]
    exact hK _ _ h

theorem run_lookup_int1 {P : Program} {w : World} {t K E : TypeId} {r : Nat} {es : Array MapEntry} {c : Nat} {k : Int} {v z : Value} {b : Bool} {o : Option (Nat × Value)}
    (ht : P.underlying t = some (.map K E)) (hk : P.underlying K = some (.int .i64)) (hz : (zeroValue E).run P w = .ok z w) (hg : w.heap[r]? = some (.map es c))
    (hf : Instr.findNow (.int .i64) (.int .i64 k) es.toList 0 = some o) (hv : pickO o z = (v, b)) :
    (Instr.lookup t (.map (some r)) (.int .i64 k) false).run P w = .ok v w := by
  unfold Instr.lookup
  simp [Sem.run_bind, run_underlying ht, getObj_run hg, checkKey_int hk, run_findKey_int hk k es.toList hf]
  cases o with
  | none => simp [pickO] at hv; simp [hz, hv]
  | some x => simp [pickO] at hv; simp [hv]

/-- the entries 0, .., n - 1 of a map that a literal with the keys 0, 1, .. builds -/
def ents (f : Nat → Value) (n : Nat) : Array MapEntry := ((List.range n).map fun (k : Nat) => ({ key := .int .i64 (k : Int), val := f k, born := k } : MapEntry)).toArray
theorem ents_push (f : Nat → Value) (n : Nat) : (ents f n).push { key := .int .i64 (n : Int), val := f n, born := n } = ents f (n + 1) := by
  simp [ents, List.range_succ]
theorem sameNow_ne {k m : Int} (h : k ≠ m) : Instr.sameNow (.int .i64) (.int .i64 k) (.int .i64 m) = some false := by
  have : (k == m) = false := by simpa using h
  simp [Instr.sameNow, this]
theorem findNow_none {k : Int} : ∀ (l : List MapEntry) (i : Nat), (∀ e ∈ l, ∃ m : Int, e.key = .int .i64 m ∧ k ≠ m) → Instr.findNow (.int .i64) (.int .i64 k) l i = some none
  | [], _, _ => rfl
  | e :: l, i, h => by
    obtain ⟨m, hm, hne⟩ := h e (by simp)
    unfold Instr.findNow
    rw [hm, sameNow_ne hne]
    exact findNow_none l (i + 1) fun e' he' => h e' (by simp [he'])
theorem findNow_some {k : Int} {v : Value} : ∀ (l : List MapEntry) (i j : Nat) (hj : j < l.length), l[j].key = .int .i64 k → l[j].val = v → (∀ x (hx : x < l.length), x < j → ∃ m : Int, l[x].key = .int .i64 m ∧ k ≠ m) →
    Instr.findNow (.int .i64) (.int .i64 k) l i = some (some (i + j, v))
  | [], _, j, hj, _, _, _ => absurd hj (by simp)
  | e :: l, i, 0, hj, hk, hv, _ => by
    unfold Instr.findNow
    simp at hk hv
    simp [Instr.sameNow, hk, hv]
  | e :: l, i, j + 1, hj, hk, hv, hb => by
    obtain ⟨m, hm, hne⟩ := hb 0 (by simp) (by omega)
    simp at hm
    unfold Instr.findNow
    rw [hm, sameNow_ne hne]
    have := findNow_some (v := v) l (i + 1) j (by simpa using hj) (by simpa using hk) (by simpa using hv) fun x hx hlt => by
      have := hb (x + 1) (by simpa using hx) (by omega)
      simp only [List.getElem_cons_succ] at this
      exact this
    rw [show i + (j + 1) = i + 1 + j by omega]
    exact this
theorem find_ents_new (f : Nat → Value) (n : Nat) : Instr.findNow (.int .i64) (.int .i64 (n : Int)) (ents f n).toList 0 = some none := by
  refine findNow_none _ _ fun e he => ?_
  simp [ents] at he
  obtain ⟨m, hm, rfl⟩ := he
  exact ⟨m, rfl, by omega⟩
theorem find_ents (f : Nat → Value) (n : Nat) (k : Int) : Instr.findNow (.int .i64) (.int .i64 k) (ents f n).toList 0 = some (if 0 ≤ k ∧ k < n then some (k.toNat, f k.toNat) else none) := by
  split
  · rename_i h
    obtain ⟨m, rfl⟩ : ∃ m : Nat, k = m := ⟨k.toNat, by omega⟩
    rw [findNow_some (v := f m) _ 0 m (by simp [ents]; omega) (by simp [ents]) (by simp [ents]) fun x hx hlt => ⟨x, by simp [ents], by omega⟩]
    simp
  · rename_i h
    refine findNow_none _ _ fun e he => ?_
    simp [ents] at he
    obtain ⟨m, hm, rfl⟩ := he
    exact ⟨m, rfl, by omega⟩
theorem wpList_insert_next {P : Program} {ops : Array Oper} {rest : List Oper} {o : Oper} {a : Act} {Q : Exit → Act → World → Prop} {w w0 : World} (hgd : o.guard = none) (hd : o.dst = none) (t : TypeId) (m k v : Operand)
    (ho : o.op = .insert t m k v) {K E : TypeId} (ht : P.underlying t = some (.map K E)) (hk : P.underlying K = some (.int .i64)) (f : Nat → Value) {n : Nat} {kk : Int} {r : Nat} (hw : w = w0.alloc (.map (ents f n) n)) (hr : r = w0.heap.size)
    (hm : a.eval m = .map (some r)) (hkv : a.eval k = .int .i64 kk) (hkn : kk = (n : Int)) (hv : a.eval v = f n)
    (h : wpList P ops Q rest a (w0.alloc (.map (ents f (n + 1)) (n + 1)))) : wpList P ops Q (o :: rest) a w := by
  subst hkn
  refine wpList_insert_new hgd hd t m k v ho ht hk hw hm hr hkv hv (find_ents_new f n) ?_
  rw [ents_push]; exact h
end Go.Proofs.YtpggamapmgpjcaaGreatDoor
