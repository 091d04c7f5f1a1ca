/- The walk of exodusref26.Few, and what its yes says. Conditions: none. The walk of exoduslaw27.few, and what its yes says. Conditions: none. The walk of exodusref27.Point. Conditions: lengths that fit memory. -/
import Derived.Test.YtpggamapmgpjcaaGreatDoorK45
import Derived.Test.YtpggamapmgpjcaaGreatDoorK42
import Derived.Test.YtpggamapmgpjcaaGreatDoorK33

namespace Go.Proofs.YtpggamapmgpjcaaGreatDoor
open Go Go.RowKit Go.Proofs

/-- what a small model of chapter 26 is -/
structure FewX (m : Mod) : Prop where
  l : FewL m
  i : m.items.length ≤ 3
  u : m.rules.length ≤ 6
  s : m.slots ≤ 5
  m : m.machs.length ≤ 7
set_option maxRecDepth 100000 in
set_option maxHeartbeats 4000000 in
theorem few26_ref (h : MH) (m : Mod) (w : World) (d : MD w w.heap.size h m) :
    Calls Tryz.prog 20 #[.agg #[.slice h.s m.sites.length h.sc, .slice h.f m.feeds.length h.fc, .slice h.r m.racks.length h.rc, .slice h.m m.machs.length h.mc, .slice h.l m.links.length h.lc, .slice h.i m.items.length h.ic, .int .i64 m.dark, .int .i64 m.slots, .int .i64 m.reserve, .int .i64 m.failures, .slice h.u m.rules.length h.uc]] w fun e w' => (∃ b : Bool, e = .returned (.bool b) ∧ (b = true → FewX m)) ∧ Below w.heap.size w w' := by
  have hb := (Below.refl w.heap.size w).alloc (Nat.le_refl _) (.cells #[.slice h.s m.sites.length h.sc, .slice h.f m.feeds.length h.fc, .slice h.r m.racks.length h.rc, .slice h.m m.machs.length h.mc, .slice h.l m.links.length h.lc, .slice h.i m.items.length h.ic, .int .i64 m.dark, .int .i64 m.slots, .int .i64 m.reserve, .int .i64 m.failures, .slice h.u m.rules.length h.uc] 29)
  have HB := hide hb
  have HF := hide (few22_ref h m _ (d.grow hb))
  have HM0 := hide (Blk.new w 29 #[.slice h.s m.sites.length h.sc, .slice h.f m.feeds.length h.fc, .slice h.r m.racks.length h.rc, .slice h.m m.machs.length h.mc, .slice h.l m.links.length h.lc, .slice h.i m.items.length h.ic, .int .i64 m.dark, .int .i64 m.slots, .int .i64 m.reserve, .int .i64 m.failures, .slice h.u m.rules.length h.uc])
  clear hb d
  by_cases c1 : (m.items.length : Int) ≤ 3
  · by_cases c2 : (m.rules.length : Int) ≤ 6
    · by_cases c3 : m.slots ≤ 5
      · by_cases c4 : (m.machs.length : Int) ≤ 7
        · have HC := hide (And.intro c1 (And.intro c2 (And.intro c3 c4)))
          go_enter Tryz.func20, Tryz.ntmps20
          go_wp2_with (go_at_call 36; refine HF.out.mono ?_; rintro e w1 ⟨⟨b, rfl, hfl⟩, hb1⟩; have hm1 := HM0.out.below hb1 (by simp); obtain ⟨a0, a1, a2, a3, a4, a5, a6, a7, a8, a9, a10⟩ := MB.cells hm1; have lt1 := hm1.lt; have HB1 := hide (HB.out.trans (hb1.mono (by simp))); have HFL := hide hfl; clear hm1 hb1 hfl; cases b)
          all_goals go_ret
          · exact ⟨⟨false, rfl, fun h => by cases h⟩, HB1.out⟩
          · obtain ⟨k1, k2, k3, k4⟩ := HC.out
            exact ⟨⟨true, rfl, fun _ => ⟨HFL.out (by first | trivial | rfl), by omega, by omega, k3, by omega⟩⟩, HB1.out⟩
        · have d1 : decide ((m.machs.length : Int) ≤ 7) = false := decide_eq_false c4
          go_enter Tryz.func20, Tryz.ntmps20
          go_wp2_with (go_at_call 36; refine HF.out.mono ?_; rintro e w1 ⟨⟨b, rfl, hfl⟩, hb1⟩; have hm1 := HM0.out.below hb1 (by simp); obtain ⟨a0, a1, a2, a3, a4, a5, a6, a7, a8, a9, a10⟩ := MB.cells hm1; have lt1 := hm1.lt; have HB1 := hide (HB.out.trans (hb1.mono (by simp))); have HFL := hide hfl; clear hm1 hb1 hfl; cases b)
          all_goals go_ret
          · exact ⟨⟨false, rfl, fun h => by cases h⟩, HB1.out⟩
          · exact ⟨⟨false, rfl, fun h => by cases h⟩, HB1.out⟩
      · have d1 : decide (m.slots ≤ 5) = false := decide_eq_false c3
        go_enter Tryz.func20, Tryz.ntmps20
        go_wp2_with (go_at_call 36; refine HF.out.mono ?_; rintro e w1 ⟨⟨b, rfl, hfl⟩, hb1⟩; have hm1 := HM0.out.below hb1 (by simp); obtain ⟨a0, a1, a2, a3, a4, a5, a6, a7, a8, a9, a10⟩ := MB.cells hm1; have lt1 := hm1.lt; have HB1 := hide (HB.out.trans (hb1.mono (by simp))); have HFL := hide hfl; clear hm1 hb1 hfl; cases b)
        all_goals go_ret
        · exact ⟨⟨false, rfl, fun h => by cases h⟩, HB1.out⟩
        · exact ⟨⟨false, rfl, fun h => by cases h⟩, HB1.out⟩
    · have d1 : decide ((m.rules.length : Int) ≤ 6) = false := decide_eq_false c2
      go_enter Tryz.func20, Tryz.ntmps20
      go_wp2_with (go_at_call 36; refine HF.out.mono ?_; rintro e w1 ⟨⟨b, rfl, hfl⟩, hb1⟩; have hm1 := HM0.out.below hb1 (by simp); obtain ⟨a0, a1, a2, a3, a4, a5, a6, a7, a8, a9, a10⟩ := MB.cells hm1; have lt1 := hm1.lt; have HB1 := hide (HB.out.trans (hb1.mono (by simp))); have HFL := hide hfl; clear hm1 hb1 hfl; cases b)
      all_goals go_ret
      · exact ⟨⟨false, rfl, fun h => by cases h⟩, HB1.out⟩
      · exact ⟨⟨false, rfl, fun h => by cases h⟩, HB1.out⟩
  · have d1 : decide ((m.items.length : Int) ≤ 3) = false := decide_eq_false c1
    go_enter Tryz.func20, Tryz.ntmps20
    go_wp2_with (go_at_call 36; refine HF.out.mono ?_; rintro e w1 ⟨⟨b, rfl, hfl⟩, hb1⟩; have hm1 := HM0.out.below hb1 (by simp); obtain ⟨a0, a1, a2, a3, a4, a5, a6, a7, a8, a9, a10⟩ := MB.cells hm1; have lt1 := hm1.lt; have HB1 := hide (HB.out.trans (hb1.mono (by simp))); have HFL := hide hfl; clear hm1 hb1 hfl; cases b)
    all_goals go_ret
    · exact ⟨⟨false, rfl, fun h => by cases h⟩, HB1.out⟩
    · exact ⟨⟨false, rfl, fun h => by cases h⟩, HB1.out⟩
end Go.Proofs.YtpggamapmgpjcaaGreatDoor

namespace Go.Proofs.YtpggamapmgpjcaaGreatDoor
open Go Go.RowKit Go.Proofs

set_option maxRecDepth 100000 in
set_option maxHeartbeats 4000000 in
theorem few27_law (h : MH) (m : Mod) (Ax Ap : Option Addr) (nx np kx kp : Nat) (w : World) (d : MD w w.heap.size h m) :
    Calls Tryz.prog 8 #[.agg #[.slice h.s m.sites.length h.sc, .slice h.f m.feeds.length h.fc, .slice h.r m.racks.length h.rc, .slice h.m m.machs.length h.mc, .slice h.l m.links.length h.lc, .slice h.i m.items.length h.ic, .int .i64 m.dark, .int .i64 m.slots, .int .i64 m.reserve, .int .i64 m.failures, .slice h.u m.rules.length h.uc], .slice Ax nx kx, .agg #[.slice Ap np kp]] w fun e w' => (∃ b : Bool, e = .returned (.bool b) ∧ (b = true → FewX m ∧ nx ≤ 400 ∧ np ≤ 60)) ∧ Below w.heap.size w w' := by
  have hb := ((Below.refl w.heap.size w).alloc (Nat.le_refl _) (.cells #[.slice h.s m.sites.length h.sc, .slice h.f m.feeds.length h.fc, .slice h.r m.racks.length h.rc, .slice h.m m.machs.length h.mc, .slice h.l m.links.length h.lc, .slice h.i m.items.length h.ic, .int .i64 m.dark, .int .i64 m.slots, .int .i64 m.reserve, .int .i64 m.failures, .slice h.u m.rules.length h.uc] 29)).alloc (by simp) (.cells #[.slice Ap np kp] 35)
  have HB := hide hb
  have HF := hide (few26_ref h m _ (d.grow hb))
  have HP0 := hide (show Blk ((w.alloc (.cells #[.slice h.s m.sites.length h.sc, .slice h.f m.feeds.length h.fc, .slice h.r m.racks.length h.rc, .slice h.m m.machs.length h.mc, .slice h.l m.links.length h.lc, .slice h.i m.items.length h.ic, .int .i64 m.dark, .int .i64 m.slots, .int .i64 m.reserve, .int .i64 m.failures, .slice h.u m.rules.length h.uc] 29)).alloc (.cells #[.slice Ap np kp] 35)) (w.heap.size + 1) 35 #[.slice Ap np kp] from by simpa using Blk.new (w.alloc (.cells #[.slice h.s m.sites.length h.sc, .slice h.f m.feeds.length h.fc, .slice h.r m.racks.length h.rc, .slice h.m m.machs.length h.mc, .slice h.l m.links.length h.lc, .slice h.i m.items.length h.ic, .int .i64 m.dark, .int .i64 m.slots, .int .i64 m.reserve, .int .i64 m.failures, .slice h.u m.rules.length h.uc] 29)) 35 #[.slice Ap np kp])
  clear hb d
  by_cases c1 : (nx : Int) ≤ 400
  · by_cases c2 : (np : Int) ≤ 60
    · have HC := hide (And.intro c1 c2)
      go_enter Tryz.func8, Tryz.ntmps8
      go_wp2_with (go_at_call 20; refine HF.out.mono ?_; rintro e w1 ⟨⟨b, rfl, hfl⟩, hb1⟩; have hm1 := HP0.out.below hb1 (by simp); have p0 := hm1.cell 0; simp at p0; have lt1 := hm1.lt; have HB1 := hide (HB.out.trans (hb1.mono HB.out.size)); have HFL := hide hfl; clear hm1 hb1 hfl; cases b)
      all_goals go_ret
      · exact ⟨⟨false, rfl, fun h => by cases h⟩, HB1.out⟩
      · obtain ⟨k1, k2⟩ := HC.out
        exact ⟨⟨true, rfl, fun _ => ⟨HFL.out (by first | trivial | rfl), by omega, by omega⟩⟩, HB1.out⟩
    · have d1 : decide ((np : Int) ≤ 60) = false := decide_eq_false c2
      go_enter Tryz.func8, Tryz.ntmps8
      go_wp2_with (go_at_call 20; refine HF.out.mono ?_; rintro e w1 ⟨⟨b, rfl, hfl⟩, hb1⟩; have hm1 := HP0.out.below hb1 (by simp); have p0 := hm1.cell 0; simp at p0; have lt1 := hm1.lt; have HB1 := hide (HB.out.trans (hb1.mono HB.out.size)); have HFL := hide hfl; clear hm1 hb1 hfl; cases b)
      all_goals go_ret
      · exact ⟨⟨false, rfl, fun h => by cases h⟩, HB1.out⟩
      · exact ⟨⟨false, rfl, fun h => by cases h⟩, HB1.out⟩
  · have d1 : decide ((nx : Int) ≤ 400) = false := decide_eq_false c1
    go_enter Tryz.func8, Tryz.ntmps8
    go_wp2_with (go_at_call 20; refine HF.out.mono ?_; rintro e w1 ⟨⟨b, rfl, hfl⟩, hb1⟩; have hm1 := HP0.out.below hb1 (by simp); have p0 := hm1.cell 0; simp at p0; have lt1 := hm1.lt; have HB1 := hide (HB.out.trans (hb1.mono HB.out.size)); have HFL := hide hfl; clear hm1 hb1 hfl; cases b)
    all_goals go_ret
    · exact ⟨⟨false, rfl, fun h => by cases h⟩, HB1.out⟩
    · exact ⟨⟨false, rfl, fun h => by cases h⟩, HB1.out⟩
end Go.Proofs.YtpggamapmgpjcaaGreatDoor

namespace Go.Proofs.YtpggamapmgpjcaaGreatDoor
open Go Go.RowKit Go.Proofs

set_option maxRecDepth 100000 in
set_option maxHeartbeats 4000000 in
theorem rpoint_no (h : MH) (m : Mod) (w : World) (d : MD w w.heap.size h m) (hc : (choR m).2 ≠ 0) (Ap : Option Addr) (n cp : Nat) :
    Calls Tryz.prog 13 #[.agg #[.slice h.s m.sites.length h.sc, .slice h.f m.feeds.length h.fc, .slice h.r m.racks.length h.rc, .slice h.m m.machs.length h.mc, .slice h.l m.links.length h.lc, .slice h.i m.items.length h.ic, .int .i64 m.dark, .int .i64 m.slots, .int .i64 m.reserve, .int .i64 m.failures, .slice h.u m.rules.length h.uc], .agg #[.slice Ap n cp]] w (XPoint w [] (choR m).2) := by
  have hb := ((Below.refl w.heap.size w).alloc (Nat.le_refl _) (.cells #[.slice h.s m.sites.length h.sc, .slice h.f m.feeds.length h.fc, .slice h.r m.racks.length h.rc, .slice h.m m.machs.length h.mc, .slice h.l m.links.length h.lc, .slice h.i m.items.length h.ic, .int .i64 m.dark, .int .i64 m.slots, .int .i64 m.reserve, .int .i64 m.failures, .slice h.u m.rules.length h.uc] 29)).alloc (by simp) (.cells #[.slice Ap n cp] 35)
  have HB := hide hb
  have HST := hide (steps_ref h m _ (d.grow hb))
  rw [show stepsR m = ([], (choR m).2) by rw [stepsR, if_pos hc]] at HST
  obtain ⟨q, hq⟩ : ∃ q, q = (choR m).2 := ⟨_, rfl⟩
  rw [← hq] at HST hc ⊢
  have g : (q != 0) = true := by simpa using hc
  clear hb d hc hq
  go_enter Tryz.func13, Tryz.ntmps13
  go_wp2_with (go_at_call 22; refine HST.out.mono ?_; rintro e w1 ⟨A, c, rfl, _, hb1⟩; have HB1 := hide (HB.out.trans (hb1.mono HB.out.size)); clear hb1)
  go_ret2
  exact ⟨none, 0, rfl, ints_nil _ _, HB1.out⟩
/-- the index that the inner loop has found among the first q steps -/
def atI (L : List StM) (x : StM) (q : Nat) : Int := if L.idxOf x < q then (L.idxOf x : Int) else -1
theorem atI_zero (L : List StM) (x : StM) : atI L x 0 = -1 := by simp [atI]
theorem atI_yes {L : List StM} (hL : L.Nodup) {x : StM} {q : Nat} (hq : q < L.length) (h : L[q] = x) : atI L x (q + 1) = q := by
  have hm : x ∈ L := h ▸ List.getElem_mem hq
  have hi : L.idxOf x < L.length := List.idxOf_lt_length_of_mem hm
  have he : L[L.idxOf x] = x := List.getElem_idxOf hi
  have : L.idxOf x = q := by
    by_cases e : L.idxOf x = q
    · exact e
    · exact absurd (he.trans h.symm) (at_ne hL hi hq e)
  rw [atI, this, if_pos (by omega)]
theorem atI_no {L : List StM} {x : StM} {q : Nat} (hq : q < L.length) (h : L[q] ≠ x) : atI L x (q + 1) = atI L x q := by
  have : L.idxOf x ≠ q := fun e => h (by subst e; exact List.getElem_idxOf hq)
  unfold atI
  by_cases h1 : L.idxOf x < q
  · rw [if_pos h1, if_pos (by omega)]
  · rw [if_neg h1, if_neg (by omega)]
theorem atI_all (L : List StM) (x : StM) : atI L x L.length = if x ∈ L then (L.idxOf x : Int) else -1 := by
  unfold atI
  by_cases h : x ∈ L
  · rw [if_pos h, if_pos (List.idxOf_lt_length_of_mem h)]
  · rw [if_neg h, if_neg (by rw [List.idxOf_eq_length h]; omega)]
set_option maxRecDepth 100000 in
set_option maxHeartbeats 8000000 in
theorem rpoint_yes (h : MH) (m : Mod) (Ap : Option Addr) (p : List StM) (cp : Nat) (w : World) (d : MD w w.heap.size h m) (hp : RdE elSt w Ap p) (hpl : p.length ≤ 1000000) (hc : (choR m).2 = 0) :
    Calls Tryz.prog 13 #[.agg #[.slice h.s m.sites.length h.sc, .slice h.f m.feeds.length h.fc, .slice h.r m.racks.length h.rc, .slice h.m m.machs.length h.mc, .slice h.l m.links.length h.lc, .slice h.i m.items.length h.ic, .int .i64 m.dark, .int .i64 m.slots, .int .i64 m.reserve, .int .i64 m.failures, .slice h.u m.rules.length h.uc], .agg #[.slice Ap p.length cp]] w (XPoint w (pointGo 6 5 (stepsM m) p (List.replicate (stepsM m).length 0)).1 (pointGo 6 5 (stepsM m) p (List.replicate (stepsM m).length 0)).2) := by
  have hb := ((Below.refl w.heap.size w).alloc (Nat.le_refl _) (.cells #[.slice h.s m.sites.length h.sc, .slice h.f m.feeds.length h.fc, .slice h.r m.racks.length h.rc, .slice h.m m.machs.length h.mc, .slice h.l m.links.length h.lc, .slice h.i m.items.length h.ic, .int .i64 m.dark, .int .i64 m.slots, .int .i64 m.reserve, .int .i64 m.failures, .slice h.u m.rules.length h.uc] 29)).alloc (by simp) (.cells #[.slice Ap p.length cp] 35)
  have HB := hide hb
  have hst := steps_ref h m _ (d.grow hb)
  have HP0 := hide (show Blk ((w.alloc (.cells #[.slice h.s m.sites.length h.sc, .slice h.f m.feeds.length h.fc, .slice h.r m.racks.length h.rc, .slice h.m m.machs.length h.mc, .slice h.l m.links.length h.lc, .slice h.i m.items.length h.ic, .int .i64 m.dark, .int .i64 m.slots, .int .i64 m.reserve, .int .i64 m.failures, .slice h.u m.rules.length h.uc] 29)).alloc (.cells #[.slice Ap p.length cp] 35)) (w.heap.size + 1) 35 #[.slice Ap p.length cp] from by simpa using Blk.new (w.alloc (.cells #[.slice h.s m.sites.length h.sc, .slice h.f m.feeds.length h.fc, .slice h.r m.racks.length h.rc, .slice h.m m.machs.length h.mc, .slice h.l m.links.length h.lc, .slice h.i m.items.length h.ic, .int .i64 m.dark, .int .i64 m.slots, .int .i64 m.reserve, .int .i64 m.failures, .slice h.u m.rules.length h.uc] 29)) 35 #[.slice Ap p.length cp])
  rw [show stepsR m = (stepsM m, 0) by rw [stepsR, if_neg (by simpa using hc)]] at hst
  have HST := hide hst
  dsimp only at HST
  obtain ⟨hv, _, _⟩ := choR_ok hc
  have hsl := steps_len hv
  have hnd := steps_nodup m
  obtain ⟨L, hL⟩ : ∃ L, L = stepsM m := ⟨_, rfl⟩
  rw [← hL] at HST hsl hnd ⊢
  obtain ⟨n, hn⟩ : ∃ n, n = L.length := ⟨_, rfl⟩
  rw [← hn] at hsl
  have HN := hide hn
  have HND := hide hnd
  have HPR := hide hp
  have hmk := fun W => make_row W n hsl
  clear hb d hc hst hv hL hp hn hnd
  go_enter Tryz.func13, Tryz.ntmps13
  go_wp2_with (go_at_call 22; refine HST.out.mono ?_; rintro e w1 ⟨A, c, rfl, hrd, hb1⟩
               have HP := hide (HP0.out.below hb1 HP0.out.lt)
               have HB1 := hide (HB.out.trans (hb1.mono HB.out.size))
               have HRD := hide hrd
               rw [← HN.out]
               clear hb1 hrd)
  have HB9 := hide ((Below.refl w1.heap.size w1).alloc (Nat.le_refl _) (.cells (rowI (List.replicate n 0)) 2))
  have HO9 := hide (Blk.new w1 2 (rowI (List.replicate n 0)))
  have HZ := hide (show (List.replicate L.length (0 : Int)) = List.replicate n 0 by rw [HN.out])
  go_loopw [9] (fun i wr => ∃ (j : Nat) (o : List Int), j ≤ p.length ∧ i = .int .i64 j ∧ o.length = n ∧ Hid (pointGo 6 5 L (p.drop j) o = pointGo 6 5 L p (List.replicate n 0)) ∧ Hid (Blk wr w1.heap.size 2 (rowI o)) ∧ Hid (Below w1.heap.size w1 wr)) (fun i _ => p.length - (intOf i).toNat)
  case atStart => exact ⟨0, List.replicate n 0, Nat.zero_le _, rfl, by simp, hide rfl, HO9, HB9⟩
  case round =>
    obtain ⟨j, o, hj, rfl, hol, hgo, hO, hb2⟩ := hrel
    rename World => w5
    clear HO9 HB9 hmk
    have HP5 := hide (HP.out.below hb2.out HP.out.lt)
    have p0 := HP5.out.cell 0
    simp at p0
    by_cases hlj : j < p.length
    · obtain ⟨b2, o2, hA2, hbl2, y0, y1, y2, y3⟩ := rd_st (RdE.grow HPR.out (HB1.out.trans (hb2.out.mono HB1.out.size))) hlj
      obtain ⟨x, hx⟩ : ∃ x, x = p[j] := ⟨_, rfl⟩
      rw [← hx] at y0 y1 y2 y3
      have hd : p.drop j = x :: p.drop (j + 1) := by rw [List.drop_eq_getElem_cons hlj, hx]
      have hg2 := hgo.out
      rw [hd, pointGo_cons] at hg2
      have HG := hide hg2
      have hltI : (j : Int) < (p.length : Int) := by omega
      subst hA2
      have HY := hide (show (w5.cell? ⟨b2, o2 + j * 4, none⟩ = some (.int .i64 x.1) ∧ w5.cell? ⟨b2, o2 + j * 4 + 1, none⟩ = some (.int .i64 x.2.1) ∧ w5.cell? ⟨b2, o2 + j * 4 + 2, none⟩ = some (.int .i64 x.2.2.1) ∧ w5.cell? ⟨b2, o2 + j * 4 + 3, none⟩ = some (.int .i64 x.2.2.2)) ∧ b2 < w5.heap.size ∧ w5.cell? ⟨w.heap.size + 1, 0, none⟩ = some (.slice (some ⟨b2, o2, none⟩) p.length cp) from ⟨⟨y0, y1, y2, y3⟩, hbl2, p0⟩)
      have HPL := hide HP5.out.lt
      clear hx hd hgo hg2 y0 y1 y2 y3 hbl2
      go_wp2_with fail
      go_loopw [10, 11] (fun v i wr2 => ∃ q : Nat, q ≤ n ∧ i = .int .i64 q ∧ v = .int .i64 (atI L x q) ∧ Hid (Below w5.heap.size w5 wr2)) (fun _ i _ => n - (intOf i).toNat)
      case atStart => exact ⟨0, Nat.zero_le _, rfl, by rw [atI_zero], hide (Below.refl _ _)⟩
      case round =>
        obtain ⟨q, hq, rfl, rfl, hb3⟩ := hrel
        rename World => w6
        by_cases hlq : q < n
        · have hqL : q < L.length := by rw [← HN.out]; exact hlq
          obtain ⟨b, o3, hA, hbl, x0, x1, x2, x3⟩ := rd_st (RdE.grow HRD.out (hb2.out.trans (hb3.out.mono hb2.out.size))) hqL
          obtain ⟨y, hy⟩ : ∃ y, y = L[q] := ⟨_, rfl⟩
          rw [← hy] at x0 x1 x2 x3
          obtain ⟨⟨y0, y1, y2, y3⟩, l2, p0⟩ := HY.out
          have z0 := (hb3.out.cell (p := ⟨b2, o2 + j * 4, none⟩) l2).trans y0
          have z1 := (hb3.out.cell (p := ⟨b2, o2 + j * 4 + 1, none⟩) l2).trans y1
          have z2 := (hb3.out.cell (p := ⟨b2, o2 + j * 4 + 2, none⟩) l2).trans y2
          have z3 := (hb3.out.cell (p := ⟨b2, o2 + j * 4 + 3, none⟩) l2).trans y3
          have p1 := (hb3.out.cell (p := ⟨w.heap.size + 1, 0, none⟩) HPL.out).trans p0
          have hqI : (q : Int) < (n : Int) := by omega
          by_cases hyx : y = x
          · have heq := step_eq (a := y) (b := x) (q := true) (by simpa using hyx)
            have HAT := hide (atI_yes HND.out hqL (hy.symm.trans hyx))
            subst hA
            clear hy hyx y0 y1 y2 y3 p0
            go_wp2_with fail
            go_quiet (fail)
            go_wp2_with fail
            go_roundw
            case rel => exact ⟨q + 1, by omega, by go_num, by rw [HAT.out], hide (below_drawn hb3.out _)⟩
            case measure => simp [intOf]; omega
          · have heq := step_eq (a := y) (b := x) (q := false) (by simpa using hyx)
            have HAT := hide (atI_no hqL (fun e => hyx (hy.trans e)))
            subst hA
            clear hy hyx y0 y1 y2 y3 p0
            go_wp2_with fail
            go_quiet (fail)
            go_wp2_with fail
            go_roundw
            case rel => exact ⟨q + 1, by omega, by go_num, by rw [HAT.out], hide (below_drawn hb3.out _)⟩
            case measure => simp [intOf]; omega
        · obtain rfl : q = n := by omega
          have hal := atI_all L x
          rw [← HN.out] at hal
          rw [hal]
          have HO6 := hide (hO.out.below hb3.out hO.out.lt)
          have HB6 := hide (hb2.out.trans (hb3.out.mono hb2.out.size))
          clear hal
          by_cases hxL : x ∈ L
          · rw [if_pos hxL] at HG ⊢
            have hix : L.idxOf x < L.length := List.idxOf_lt_length_of_mem hxL
            obtain ⟨k, hk⟩ : ∃ k, k = L.idxOf x := ⟨_, rfl⟩
            rw [← hk] at HG hix ⊢
            rw [← HN.out] at hix
            have hko : k < o.length := by omega
            obtain ⟨v, hv⟩ : ∃ v, v = o[k] := ⟨_, rfl⟩
            have hvk : o[k]? = some v := by rw [List.getElem?_eq_getElem hko, hv]
            have o0 := row_cell HO6.out hvk
            have f0 := HO6.out.frozen k
            have l0 := HO6.out.lt
            have hkI : (k : Int) < (q : Int) := by omega
            rw [hvk] at HG
            clear hk hv hvk
            by_cases hv1 : v = 1
            · subst hv1
              rw [if_pos rfl] at HG
              go_wp2_with fail
              go_ret2
              rw [HZ.out, ← HG.out]
              exact ⟨none, 0, rfl, ints_nil _ _, HB1.out.trans (HB6.out.mono HB1.out.size)⟩
            · rw [if_neg (by simpa using hv1)] at HG
              have g1 : (v == 1) = false := by simpa using hv1
              clear hv1
              go_wp2_with fail
              go_roundw
              case rel => exact ⟨j + 1, o.set k 1, by omega, by go_num, by rw [List.length_set]; exact hol, hide HG.out, hide (row_set HO6.out k 1), hide (HB6.out.setCell (Nat.le_refl _) _)⟩
              case measure => simp [intOf]; omega
          · rw [if_neg hxL] at HG ⊢
            go_wp2_with fail
            go_ret2
            rw [HZ.out, ← HG.out]
            exact ⟨none, 0, rfl, ints_nil _ _, HB1.out.trans (HB6.out.mono HB1.out.size)⟩
    · obtain rfl : j = p.length := by omega
      have hg2 := hgo.out
      rw [List.drop_length, pointGo_nil] at hg2
      have HG := hide hg2
      clear hg2
      go_wp2_with fail
      go_ret2
      rw [HZ.out, ← HG.out]
      exact ⟨_, n, by rw [hol]; rfl, row_ints hO.out, HB1.out.trans (hb2.out.mono HB1.out.size)⟩
theorem rpoint_ref (h : MH) (m : Mod) (Ap : Option Addr) (p : List StM) (cp : Nat) (w : World) (d : MD w w.heap.size h m) (hp : RdE elSt w Ap p) (hpl : p.length ≤ 1000000) :
    Calls Tryz.prog 13 #[.agg #[.slice h.s m.sites.length h.sc, .slice h.f m.feeds.length h.fc, .slice h.r m.racks.length h.rc, .slice h.m m.machs.length h.mc, .slice h.l m.links.length h.lc, .slice h.i m.items.length h.ic, .int .i64 m.dark, .int .i64 m.slots, .int .i64 m.reserve, .int .i64 m.failures, .slice h.u m.rules.length h.uc], .agg #[.slice Ap p.length cp]] w (XPoint w (xpointR m p).1 (xpointR m p).2) := by
  unfold xpointR
  by_cases hc : (choR m).2 = 0
  · rw [if_neg (by simpa using hc)]
    exact rpoint_yes h m Ap p cp w d hp hpl hc
  · rw [if_pos hc]
    exact rpoint_no h m w d hc Ap p.length cp
end Go.Proofs.YtpggamapmgpjcaaGreatDoor
