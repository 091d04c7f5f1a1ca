/- The walk of extract.Plan. Conditions: lengths that fit memory. The walk of exoduslaw26.Example: the model of the chapter. Conditions: none. -/
import Derived.Test.YtpggamapmgpjcaaGreatDoorK31
import Derived.Test.YtpggamapmgpjcaaGreatDoorK36
import Derived.Test.YtpggamapmgpjcaaGreatDoorK32
import Derived.Test.YtpggamapmgpjcaaGreatDoorK11
import Derived.Test.YtpggamapmgpjcaaGreatDoorK33

namespace Go.Proofs.YtpggamapmgpjcaaGreatDoor
open Go Go.RowKit Go.Proofs

/-- a plan in a cell and a number in a slot, returned -/
theorem ret_plan {fn : Func} {p u : Tmp} (hr : fn.results = #[.cell p 35, .tmp u]) (tmps : Array Value) (w : World) (g : Nat) (v : Value) (hp : tmps.getD p undef = .pointer (some ⟨g, 0, none⟩)) (hb : Blk w g 35 #[v]) : (results fn tmps).run Tryz.prog w = .ok (.tuple #[.agg #[v], tmps.getD u undef]) w := by
  have hl := run_loadVar_row (P := Tryz.prog) w g 35 35 #[v] (0, 0) _ hb Tryz.underlying35 rfl (by kernel_rfl)
  rw [results_cell_tmp hr, hp]
  simp [asAddr, hl]
/-- what extract.Plan answers -/
def XPlan (w : World) (l : List StM) (q : Int) (e : Ending) (w' : World) : Prop := ∃ A c, e = .returned (.tuple #[.agg #[.slice A l.length c], .int .i64 q]) ∧ RdE elSt w' A l ∧ Below w.heap.size w w'
set_option maxRecDepth 100000 in
set_option maxHeartbeats 4000000 in
theorem xplan_no (h : MH) (m : Mod) (Ax : Option Addr) (nx cx : Nat) (w : World) (d : MD w w.heap.size h m) (k1 : m.racks.length ≤ h.rc) (k2 : m.machs.length ≤ h.mc) (k3 : m.links.length ≤ h.lc) (ha : Asc w) (hc : (choR m).2 ≠ 0) :
    Calls Tryz.prog 9 #[.agg #[.slice h.s m.sites.length h.sc, .slice h.f m.feeds.length h.fc, .slice h.r m.racks.length h.rc, .slice h.m m.machs.length h.mc, .slice h.l m.links.length h.lc, .slice h.i m.items.length h.ic, .int .i64 m.dark, .int .i64 m.slots, .int .i64 m.reserve, .int .i64 m.failures, .slice h.u m.rules.length h.uc], .slice Ax nx cx] w (XPlan w [] (choR m).2) := by
  have hb := ((Below.refl w.heap.size w).alloc (Nat.le_refl _) (.cells #[.slice h.s m.sites.length h.sc, .slice h.f m.feeds.length h.fc, .slice h.r m.racks.length h.rc, .slice h.m m.machs.length h.mc, .slice h.l m.links.length h.lc, .slice h.i m.items.length h.ic, .int .i64 m.dark, .int .i64 m.slots, .int .i64 m.reserve, .int .i64 m.failures, .slice h.u m.rules.length h.uc] 29)).alloc (by simp) (.cells #[.slice none 0 0] 35)
  have HB := hide hb
  have HST := hide (steps_prog h m _ (d.grow hb) k1 k2 k3 (ha.below (Nat.le_refl _) hb))
  have HP0 := hide (show Blk ((w.alloc (.cells #[.slice h.s m.sites.length h.sc, .slice h.f m.feeds.length h.fc, .slice h.r m.racks.length h.rc, .slice h.m m.machs.length h.mc, .slice h.l m.links.length h.lc, .slice h.i m.items.length h.ic, .int .i64 m.dark, .int .i64 m.slots, .int .i64 m.reserve, .int .i64 m.failures, .slice h.u m.rules.length h.uc] 29)).alloc (.cells #[.slice none 0 0] 35)) (w.heap.size + 1) 35 #[.slice none 0 0] from by simpa using Blk.new (w.alloc (.cells #[.slice h.s m.sites.length h.sc, .slice h.f m.feeds.length h.fc, .slice h.r m.racks.length h.rc, .slice h.m m.machs.length h.mc, .slice h.l m.links.length h.lc, .slice h.i m.items.length h.ic, .int .i64 m.dark, .int .i64 m.slots, .int .i64 m.reserve, .int .i64 m.failures, .slice h.u m.rules.length h.uc] 29)) 35 #[.slice none 0 0])
  rw [show stepsR m = ([], (choR m).2) by rw [stepsR, if_pos hc]] at HST
  obtain ⟨q, hq⟩ : ∃ q, q = (choR m).2 := ⟨_, rfl⟩
  rw [← hq] at HST hc ⊢
  have g : (q != 0) = true := by simpa using hc
  clear hb d k1 k2 k3 ha hc hq
  go_enter Tryz.func9, Tryz.ntmps9
  go_wp2_with (go_at_call 21; refine HST.out.mono ?_; rintro e w1 ⟨A, c, rfl, _, hb1⟩
               have hP := HP0.out.below hb1 HP0.out.lt
               have p0 := hP.cell 0
               have f0 := hP.frozen 0
               have l0 := hP.lt
               simp at p0
               have HP := hide hP
               have HB1 := hide (HB.out.trans (hb1.mono HB.out.size))
               clear hb1 hP)
  refine bodyPost_ret (ret_plan rfl _ _ (w.heap.size + 1) (.slice none 0 0) rfl (Blk.set_ HP.out 0 _)) rfl ?_
  exact ⟨none, 0, rfl, RdE.nil_, HB1.out.trans ((But.set_ (B := w.heap.size + 1) w1 0 _).below (Nat.le_refl _) |>.mono (Nat.le_succ _))⟩
/-- a number that is neither 0 nor 1 -/
def badX (x : List Int) : Bool := x.any fun v => decide (v ≠ 0 ∧ v ≠ 1)
def planA (L : List StM) (x : List Int) : List StM × Int := if x.length ≠ L.length then ([], 1) else if badX x then ([], 2) else (normM (pickM L x), 0)
theorem pickM_append : ∀ (a b : List StM) (c d : List Int), a.length = c.length → pickM (a ++ b) (c ++ d) = pickM a c ++ pickM b d
  | [], b, [], d, _ => by simp [pickM]
  | [], _, _ :: _, _, h => by simp at h
  | _ :: _, _, [], _, h => by simp at h
  | s :: a, b, v :: c, d, h => by
    have := pickM_append a b c d (by simpa using h)
    simp only [List.cons_append, pickM, this]
    split <;> rfl
theorem pickM_snoc {L : List StM} {x : List Int} {k : Nat} (h : k < L.length) (hx : k < x.length) : pickM (L.take (k + 1)) (x.take (k + 1)) = pickM (L.take k) (x.take k) ++ if x[k] = 1 then [L[k]] else [] := by
  rw [List.take_succ_eq_append_getElem h, List.take_succ_eq_append_getElem hx, pickM_append _ _ _ _ (by simp; omega)]
  congr 1
theorem badX_snoc {x : List Int} {k : Nat} (hx : k < x.length) : badX (x.take (k + 1)) = (badX (x.take k) || decide (x[k] ≠ 0 ∧ x[k] ≠ 1)) := by
  rw [List.take_succ_eq_append_getElem hx, badX, List.any_append]
  simp [badX]
theorem badX_at {x : List Int} {k : Nat} (hx : k < x.length) (h0 : x[k] ≠ 0) (h1 : x[k] ≠ 1) : badX x = true := by
  rw [badX, List.any_eq_true]
  exact ⟨x[k], List.getElem_mem hx, by simp [h0, h1]⟩
theorem pickM_len : ∀ (L : List StM) (x : List Int), (pickM L x).length ≤ L.length
  | [], _ => by simp [pickM]
  | _ :: _, [] => by simp [pickM]
  | s :: l, v :: x => by
    have := pickM_len l x
    unfold pickM
    split <;> simp <;> omega
set_option maxRecDepth 100000 in
set_option maxHeartbeats 4000000 in
theorem xplan_len (h : MH) (m : Mod) (Ax : Option Addr) (x : List Int) (cx : Nat) (w : World) (d : MD w w.heap.size h m) (k1 : m.racks.length ≤ h.rc) (k2 : m.machs.length ≤ h.mc) (k3 : m.links.length ≤ h.lc) (ha : Asc w) (hc : (choR m).2 = 0) (hl : x.length ≠ (stepsM m).length) :
    Calls Tryz.prog 9 #[.agg #[.slice h.s m.sites.length h.sc, .slice h.f m.feeds.length h.fc, .slice h.r m.racks.length h.rc, .slice h.m m.machs.length h.mc, .slice h.l m.links.length h.lc, .slice h.i m.items.length h.ic, .int .i64 m.dark, .int .i64 m.slots, .int .i64 m.reserve, .int .i64 m.failures, .slice h.u m.rules.length h.uc], .slice Ax x.length cx] w (XPlan w [] 1) := by
  have hb := ((Below.refl w.heap.size w).alloc (Nat.le_refl _) (.cells #[.slice h.s m.sites.length h.sc, .slice h.f m.feeds.length h.fc, .slice h.r m.racks.length h.rc, .slice h.m m.machs.length h.mc, .slice h.l m.links.length h.lc, .slice h.i m.items.length h.ic, .int .i64 m.dark, .int .i64 m.slots, .int .i64 m.reserve, .int .i64 m.failures, .slice h.u m.rules.length h.uc] 29)).alloc (by simp) (.cells #[.slice none 0 0] 35)
  have HB := hide hb
  have hst := steps_prog h m _ (d.grow hb) k1 k2 k3 (ha.below (Nat.le_refl _) hb)
  have HP0 := hide (show Blk ((w.alloc (.cells #[.slice h.s m.sites.length h.sc, .slice h.f m.feeds.length h.fc, .slice h.r m.racks.length h.rc, .slice h.m m.machs.length h.mc, .slice h.l m.links.length h.lc, .slice h.i m.items.length h.ic, .int .i64 m.dark, .int .i64 m.slots, .int .i64 m.reserve, .int .i64 m.failures, .slice h.u m.rules.length h.uc] 29)).alloc (.cells #[.slice none 0 0] 35)) (w.heap.size + 1) 35 #[.slice none 0 0] from by simpa using Blk.new (w.alloc (.cells #[.slice h.s m.sites.length h.sc, .slice h.f m.feeds.length h.fc, .slice h.r m.racks.length h.rc, .slice h.m m.machs.length h.mc, .slice h.l m.links.length h.lc, .slice h.i m.items.length h.ic, .int .i64 m.dark, .int .i64 m.slots, .int .i64 m.reserve, .int .i64 m.failures, .slice h.u m.rules.length h.uc] 29)) 35 #[.slice none 0 0])
  rw [show stepsR m = (stepsM m, 0) by rw [stepsR, if_neg (by simpa using hc)]] at hst
  have HST := hide hst
  dsimp only at HST
  obtain ⟨n, hn⟩ : ∃ n, n = (stepsM m).length := ⟨_, rfl⟩
  rw [← hn] at hl
  have HN := hide hn
  have g : ((x.length : Int) != (n : Int)) = true := by simp; omega
  clear hb d k1 k2 k3 ha hc hst hn
  go_enter Tryz.func9, Tryz.ntmps9
  go_wp2_with (go_at_call 21; refine HST.out.mono ?_; rintro e w1 ⟨A, c, rfl, _, hb1⟩
               have hP := HP0.out.below hb1 HP0.out.lt
               have p0 := hP.cell 0
               have f0 := hP.frozen 0
               have l0 := hP.lt
               simp at p0
               have HP := hide hP
               have HB1 := hide (HB.out.trans (hb1.mono HB.out.size))
               rw [← HN.out]
               clear hb1 hP)
  refine bodyPost_ret (ret_plan rfl _ _ (w.heap.size + 1) (.slice none 0 0) rfl (Blk.set_ HP.out 0 _)) rfl ?_
  exact ⟨none, 0, rfl, RdE.nil_, HB1.out.trans ((But.set_ (B := w.heap.size + 1) w1 0 _).below (Nat.le_refl _) |>.mono (Nat.le_succ _))⟩
set_option maxRecDepth 100000 in
set_option maxHeartbeats 8000000 in
theorem xplan_yes (h : MH) (m : Mod) (Ax : Option Addr) (x : List Int) (cx : Nat) (w : World) (d : MD w w.heap.size h m) (k1 : m.racks.length ≤ h.rc) (k2 : m.machs.length ≤ h.mc) (k3 : m.links.length ≤ h.lc) (ha : Asc w) (hx : Ints w w.heap.size Ax x) (hc : (choR m).2 = 0) (hl : x.length = (stepsM m).length) :
    Calls Tryz.prog 9 #[.agg #[.slice h.s m.sites.length h.sc, .slice h.f m.feeds.length h.fc, .slice h.r m.racks.length h.rc, .slice h.m m.machs.length h.mc, .slice h.l m.links.length h.lc, .slice h.i m.items.length h.ic, .int .i64 m.dark, .int .i64 m.slots, .int .i64 m.reserve, .int .i64 m.failures, .slice h.u m.rules.length h.uc], .slice Ax x.length cx] w (XPlan w (planA (stepsM m) x).1 (planA (stepsM m) x).2) := by
  have hb := ((Below.refl w.heap.size w).alloc (Nat.le_refl _) (.cells #[.slice h.s m.sites.length h.sc, .slice h.f m.feeds.length h.fc, .slice h.r m.racks.length h.rc, .slice h.m m.machs.length h.mc, .slice h.l m.links.length h.lc, .slice h.i m.items.length h.ic, .int .i64 m.dark, .int .i64 m.slots, .int .i64 m.reserve, .int .i64 m.failures, .slice h.u m.rules.length h.uc] 29)).alloc (by simp) (.cells #[.slice none 0 0] 35)
  have HB := hide hb
  have hst := steps_prog h m _ (d.grow hb) k1 k2 k3 (ha.below (Nat.le_refl _) hb)
  have HP0 := hide (show Blk ((w.alloc (.cells #[.slice h.s m.sites.length h.sc, .slice h.f m.feeds.length h.fc, .slice h.r m.racks.length h.rc, .slice h.m m.machs.length h.mc, .slice h.l m.links.length h.lc, .slice h.i m.items.length h.ic, .int .i64 m.dark, .int .i64 m.slots, .int .i64 m.reserve, .int .i64 m.failures, .slice h.u m.rules.length h.uc] 29)).alloc (.cells #[.slice none 0 0] 35)) (w.heap.size + 1) 35 #[.slice none 0 0] from by simpa using Blk.new (w.alloc (.cells #[.slice h.s m.sites.length h.sc, .slice h.f m.feeds.length h.fc, .slice h.r m.racks.length h.rc, .slice h.m m.machs.length h.mc, .slice h.l m.links.length h.lc, .slice h.i m.items.length h.ic, .int .i64 m.dark, .int .i64 m.slots, .int .i64 m.reserve, .int .i64 m.failures, .slice h.u m.rules.length h.uc] 29)) 35 #[.slice none 0 0])
  rw [show stepsR m = (stepsM m, 0) by rw [stepsR, if_neg (by simpa using hc)]] at hst
  have HST := hide hst
  dsimp only at HST
  obtain ⟨hv, _, _⟩ := choR_ok hc
  have hsl := steps_len hv
  obtain ⟨L, hL⟩ : ∃ L, L = stepsM m := ⟨_, rfl⟩
  rw [← hL] at HST hl hsl ⊢
  have HL := hide hl
  have hn : x.length ≤ 48000 := by omega
  have HX := hide hx
  have HPA := hide (show planA L x = if badX x then ([], 2) else (normM (pickM L x), 0) by rw [planA, if_neg (by simpa using hl)])
  clear hb d k1 k2 k3 ha hc hst hv hsl hL hx hl
  go_enter Tryz.func9, Tryz.ntmps9
  go_wp2_with (go_at_call 21; refine HST.out.mono ?_; rintro e w1 ⟨A, c, rfl, hrd, hb1⟩
               have HP := hide (HP0.out.below hb1 HP0.out.lt)
               have HB1 := hide (HB.out.trans (hb1.mono HB.out.size))
               have HRD := hide hrd
               rw [← HL.out]
               clear hb1 hrd)
  have HO0 := hide (OwnE_.nil_ (E := elSt) w1.heap.size w1)
  go_loopw [8, 30] (fun v i wr => ∃ k : Nat, k ≤ x.length ∧ i = .int .i64 k ∧ Hid (badX (x.take k) = false) ∧ Hid (OwnE_ elSt w1.heap.size wr v (pickM (L.take k) (x.take k))) ∧ Hid (Below w1.heap.size w1 wr)) (fun _ i _ => x.length - (intOf i).toNat)
  case atStart => exact ⟨0, Nat.zero_le _, rfl, hide rfl, HO0, hide (Below.refl _ _)⟩
  case round =>
    obtain ⟨k, hk, rfl, hbad, hO, hbr⟩ := hrel
    clear HO0
    by_cases hlt : k < x.length
    · obtain ⟨b, o, hA, hbl, a0⟩ := int_at (HX.out.below (HB1.out.trans (hbr.out.mono HB1.out.size))) hlt
      have hbl := Nat.lt_of_lt_of_le hbl (HB1.out.trans (hbr.out.mono HB1.out.size)).size
      have hkL : k < L.length := by rw [← HL.out]; exact hlt
      obtain ⟨b2, o2, hA2, hbl2, y0, y1, y2, y3⟩ := rd_st (RdE.grow HRD.out hbr.out) hkL
      obtain ⟨v, hv⟩ : ∃ v, v = x[k] := ⟨_, rfl⟩
      obtain ⟨s, hs⟩ : ∃ s, s = L[k] := ⟨_, rfl⟩
      have hbs := badX_snoc hlt
      have hps := pickM_snoc hkL hlt
      rw [← hv] at a0 hbs hps
      rw [← hs] at y0 y1 y2 y3 hps
      rw [hbad.out] at hbs
      have hltI : (k : Int) < (x.length : Int) := by omega
      have HAT := hide (fun (g0 : v ≠ 0) (g1 : v ≠ 1) => badX_at hlt (by rw [← hv]; exact g0) (by rw [← hv]; exact g1))
      clear hv hs hkL
      subst hA hA2
      by_cases g0 : v = 0
      · have HBS := hide (show badX (x.take (k + 1)) = false by rw [hbs]; simp [g0])
        have HPS := hide (show pickM (L.take (k + 1)) (x.take (k + 1)) = pickM (L.take k) (x.take k) by rw [hps, if_neg (by omega), List.append_nil])
        clear hbs hps
        go_wp2_with fail
        go_roundw
        case rel => exact ⟨k + 1, by omega, by go_num, HBS, hide (by rw [HPS.out]; exact hO.out), hbr⟩
        case measure => simp [intOf]; omega
      · by_cases g1 : v = 1
        · have HBS := hide (show badX (x.take (k + 1)) = false by rw [hbs]; simp [g1])
          have HPS := hide (show pickM (L.take (k + 1)) (x.take (k + 1)) = pickM (L.take k) (x.take k) ++ [s] by rw [hps, if_pos g1])
          obtain ⟨ll, hll⟩ : ∃ ll, ll = pickM (L.take k) (x.take k) := ⟨_, rfl⟩
          have HLL := hide (show ll.length ≤ 48000 by rw [hll]; have := pickM_len (L.take k) (x.take k); have := HL.out; simp at this ⊢; have h2 := List.length_take_le k L; omega)
          rw [← hll] at hO HPS
          obtain ⟨A3, c3, e3, _⟩ := hO.out.form
          have HE3 := hide e3
          clear hbs hps hll HAT e3
          subst g1
          have hO2 := hO.out
          rw [HE3.out] at hO2
          have HO2 := hide hO2
          clear hO2
          go_wp2_with (at_builtin; refine append_el okSt rfl _ _ rfl w1.heap.size u8 ll rfl (hO.out.below ((Below.refl _ _).alloc (Nat.le_refl _) _)) _ _ 1 1 [s] rfl (Reads.newE2 (E := elSt) _ s rfl) rfl (by have := HLL.out; simp; omega) (by have := hbr.out.size; simp; omega) ?_
                       intro v3 w3 ho3 hg3 _
                       have HO3 := hide ho3
                       have HB3 := hide (Below.ofGrown (hbr.out.alloc hbr.out.size (.cells (elSt.f s).toArray elSt.T)) hg3 (by have := hbr.out.size; simp; omega) (fun k hk => (hO.out.lt k hk).1))
                       clear ho3 hg3)
          go_roundw
          case rel => exact ⟨k + 1, by omega, by go_num, HBS, hide (by rw [HPS.out]; exact HO3.out), HB3⟩
          case measure => simp [intOf]; omega
        · have HBS := hide (HAT.out g0 g1)
          clear hbs hps
          have hP := HP.out.below hbr.out HP.out.lt
          have p0 := hP.cell 0
          have f0 := hP.frozen 0
          have l0 := hP.lt
          simp at p0
          have HP2 := hide hP
          clear hP
          go_wp2_with fail
          refine bodyPost_ret (ret_plan rfl _ _ (w.heap.size + 1) (.slice none 0 0) rfl (Blk.set_ HP2.out 0 _)) rfl ?_
          rw [HPA.out, if_pos HBS.out]
          exact ⟨none, 0, rfl, RdE.nil_, (HB1.out.trans (hbr.out.mono HB1.out.size)).trans ((But.set_ (B := w.heap.size + 1) wr 0 _).below (Nat.le_refl _) |>.mono (Nat.le_succ _))⟩
    · obtain rfl : k = x.length := by omega
      have hO2 := hO.out
      have hb2 := hbad.out
      rw [List.take_of_length_le (by rw [← HL.out]; exact Nat.le_refl _), List.take_of_length_le (Nat.le_refl _)] at hO2
      rw [List.take_of_length_le (Nat.le_refl _)] at hb2
      obtain ⟨A3, c3, e3, hrd3⟩ := hO2.rd
      have HNP := hide (normal_prog (pickM L x) A3 c3 wr (by have := pickM_len L x; have := HL.out; omega) hrd3)
      have HBD := hide hb2
      have HP2 := hide (HP.out.below hbr.out HP.out.lt)
      have HB2 := hide (HB1.out.trans (hbr.out.mono HB1.out.size))
      have HPL := hide HP.out.lt
      clear hO2 hb2 hrd3 hbr hO hbad
      subst e3
      go_wp2_with (go_at_call 18; refine HNP.out.mono ?_; rintro e w4 ⟨A4, c4, rfl, hc1, hc2, hrd4, hga, hb4⟩
                   have hP := HP2.out.below hb4 HP2.out.lt
                   have p0 := hP.cell 0
                   have f0 := hP.frozen 0
                   have l0 := hP.lt
                   simp at p0
                   have HP4 := hide hP
                   have HB4 := hide (HB2.out.trans (hb4.mono HB2.out.size))
                   have HRD4 := hide hrd4
                   have HGA := hide hga
                   clear hP hb4 hrd4 hga)
      refine bodyPost_ret (ret_plan rfl _ _ (w.heap.size + 1) (.slice A4 (normM (pickM L x)).length c4) rfl (Blk.set_ HP4.out 0 _)) rfl ?_
      rw [HPA.out, if_neg (by rw [HBD.out]; decide)]
      exact ⟨A4, c4, rfl, RdE.set_ HRD4.out (fun ad e => by have := HGA.out ad e; have h2 := HP2.out.lt; omega) _ _, HB4.out.trans ((But.set_ (B := w.heap.size + 1) w4 0 _).below (Nat.le_refl _) |>.mono (Nat.le_succ _))⟩
/-- what extract.Plan answers at a model and a point -/
def xplanR (m : Mod) (x : List Int) : List StM × Int := if (choR m).2 ≠ 0 then ([], (choR m).2) else planA (stepsM m) x
theorem xplan_prog (h : MH) (m : Mod) (Ax : Option Addr) (x : List Int) (cx : Nat) (w : World) (d : MD w w.heap.size h m) (k1 : m.racks.length ≤ h.rc) (k2 : m.machs.length ≤ h.mc) (k3 : m.links.length ≤ h.lc) (ha : Asc w) (hx : Ints w w.heap.size Ax x) :
    Calls Tryz.prog 9 #[.agg #[.slice h.s m.sites.length h.sc, .slice h.f m.feeds.length h.fc, .slice h.r m.racks.length h.rc, .slice h.m m.machs.length h.mc, .slice h.l m.links.length h.lc, .slice h.i m.items.length h.ic, .int .i64 m.dark, .int .i64 m.slots, .int .i64 m.reserve, .int .i64 m.failures, .slice h.u m.rules.length h.uc], .slice Ax x.length cx] w (XPlan w (xplanR m x).1 (xplanR m x).2) := by
  unfold xplanR
  by_cases hc : (choR m).2 = 0
  · rw [if_neg (by simpa using hc)]
    by_cases hl : x.length = (stepsM m).length
    · exact xplan_yes h m Ax x cx w d k1 k2 k3 ha hx hc hl
    · rw [planA, if_pos hl]
      exact xplan_len h m Ax x cx w d k1 k2 k3 ha hc hl
  · rw [if_pos hc]
    exact xplan_no h m Ax x.length cx w d k1 k2 k3 ha hc
end Go.Proofs.YtpggamapmgpjcaaGreatDoor

namespace Go.Proofs.YtpggamapmgpjcaaGreatDoor
open Go Go.RowKit Go.Proofs

/-- the model of chapter 26 -/
def m26 : Mod := ⟨[(⟨#[115, 49]⟩ : ByteArray), (⟨#[115, 50]⟩ : ByteArray)], [(⟨#[102, 49]⟩ : ByteArray), (⟨#[102, 50]⟩ : ByteArray)], [⟨(⟨#[114, 49]⟩ : ByteArray), 1, 1⟩, ⟨(⟨#[114, 50]⟩ : ByteArray), 2, 2⟩], [⟨(⟨#[109, 49]⟩ : ByteArray), 1, 1⟩, ⟨(⟨#[109, 50]⟩ : ByteArray), 2, 1⟩], [⟨1, 2, 1⟩], [⟨(⟨#[106]⟩ : ByteArray), 2, 1, 0, 0, 1, [1]⟩], 1, 2, 0, 0, []⟩
def h26 (n : Nat) : MH := ⟨some ⟨n + 1, 0, none⟩, 2, some ⟨n + 1 + 1, 0, none⟩, 2, some ⟨n + 1 + 1 + 1, 0, none⟩, 2, some ⟨n + 1 + 1 + 1 + 1, 0, none⟩, 2, some ⟨n + 1 + 1 + 1 + 1 + 1, 0, none⟩, 1, some ⟨n + 1 + 1 + 1 + 1 + 1 + 1 + 1, 0, none⟩, 1, none, 0⟩
/-- the blocks of the example -/
structure S26 (n : Nat) (W : World) : Prop where
  b1 : Blk W (n + 1) 9 #[.string (⟨#[115, 49]⟩ : ByteArray), .string (⟨#[115, 50]⟩ : ByteArray)]
  b2 : Blk W (n + 1 + 1) 9 #[.string (⟨#[102, 49]⟩ : ByteArray), .string (⟨#[102, 50]⟩ : ByteArray)]
  b3 : Blk W (n + 1 + 1 + 1) 84 #[.string (⟨#[114, 49]⟩ : ByteArray), .int .i64 1, .int .i64 1, .string (⟨#[114, 50]⟩ : ByteArray), .int .i64 2, .int .i64 2]
  b4 : Blk W (n + 1 + 1 + 1 + 1) 86 #[.string (⟨#[109, 49]⟩ : ByteArray), .int .i64 1, .int .i64 1, .string (⟨#[109, 50]⟩ : ByteArray), .int .i64 2, .int .i64 1]
  b5 : Blk W (n + 1 + 1 + 1 + 1 + 1) 88 #[.int .i64 1, .int .i64 2, .int .i64 1]
  b6 : Blk W (n + 1 + 1 + 1 + 1 + 1 + 1) 3 #[.int .i64 1]
  b7 : Blk W (n + 1 + 1 + 1 + 1 + 1 + 1 + 1) 91 #[.string (⟨#[106]⟩ : ByteArray), .int .i64 2, .int .i64 1, .int .i64 0, .int .i64 0, .int .i64 1, .slice (some ⟨n + 1 + 1 + 1 + 1 + 1 + 1, 0, none⟩) 1 1]
theorem S26.md {n : Nat} {W : World} (x : S26 n W) : MD W W.heap.size (h26 n) m26 where
  dS := Reads.ofBlk2 x.b1 x.b1.lt rfl
  dF := Reads.ofBlk2 x.b2 x.b2.lt rfl
  dR := rows_two x.b3 x.b3.lt (vx := [.string (⟨#[114, 49]⟩ : ByteArray), .int .i64 1, .int .i64 1]) (vy := [.string (⟨#[114, 50]⟩ : ByteArray), .int .i64 2, .int .i64 2]) rfl rfl rfl ⟨rfl, by decide⟩ ⟨rfl, by decide⟩
  dM := rows_two x.b4 x.b4.lt (vx := [.string (⟨#[109, 49]⟩ : ByteArray), .int .i64 1, .int .i64 1]) (vy := [.string (⟨#[109, 50]⟩ : ByteArray), .int .i64 2, .int .i64 1]) rfl rfl rfl ⟨rfl, by decide⟩ ⟨rfl, by decide⟩
  dL := rows_one x.b5 x.b5.lt rfl rfl
  dI := rows_one x.b7 x.b7.lt rfl ⟨_, 1, rfl, by decide, by decide, by decide, Reads.ofBlk2 x.b6 x.b6.lt rfl⟩
  dU := Rows.nil_
  sl := by decide
  fl := by decide
  rl := by decide
  ml := by decide
  ll := by decide
  il := by decide
  ul := by decide
  sf := by decide
  ff := by decide
theorem S26.grow {n : Nat} {W W2 : World} (x : S26 n W) (hb : Below W.heap.size W W2) : S26 n W2 := ⟨x.b1.below hb x.b1.lt, x.b2.below hb x.b2.lt, x.b3.below hb x.b3.lt, x.b4.below hb x.b4.lt, x.b5.below hb x.b5.lt, x.b6.below hb x.b6.lt, x.b7.below hb x.b7.lt⟩
structure W26 (w W : World) : Prop where
  b0 : Blk W w.heap.size 29 (cells22 (h26 w.heap.size) m26)
  s : S26 w.heap.size W
  bb : Below w.heap.size w W
def Ex26R (w : World) (e : Ending) (w' : World) : Prop := e = .returned (.agg (cells22 (h26 w.heap.size) m26)) ∧ W26 w w'
theorem ex26_end {w W : World} {T : Array Value} (x : W26 w W) (h0 : T.getD 0 undef = .pointer (some ⟨w.heap.size, 0, none⟩)) :
    bodyPost Tryz.prog Tryz.f19 (Ex26R w) Exit.ret { tmps := T, defers := [] } W :=
  bodyPost_ret (v := .agg (cells22 (h26 w.heap.size) m26)) (w := W) (results_cell_row (P := Tryz.prog) rfl T W w.heap.size 29 _ (0, 0) _ h0 x.b0 Tryz.underlying29 rfl (by kernel_rfl)) rfl ⟨rfl, x⟩
set_option maxRecDepth 100000 in
set_option maxHeartbeats 2000000 in
theorem example26 (w : World) : Calls Tryz.prog 19 #[] w (Ex26R w) := by
  go_enter Tryz.func19, Tryz.ntmps19
  go_wp2_with fail
  refine ex26_end ⟨?_, ⟨?_, ?_, ?_, ?_, ?_, ?_, ?_⟩, ?_⟩ rfl
  all_goals (try (repeat (first | (refine new_blk _ _ _ ?_; (simp; done)) | (with_reducible refine Blk.alloc ?_ _) | exact Below.refl _ _ | (with_reducible refine Below.alloc ?_ (by simp <;> omega) _))))
theorem v26 : validM m26 = true := by decide
theorem steps26 : stepsM m26 = [(0, 1, 1, 2), (1, 1, 1, 2)] := by kernel_rfl
theorem plan26 : xplanR m26 [0, 1] = ([(1, 1, 1, 2)], 0) := by kernel_rfl
theorem point26 : xpointR m26 [(1, 1, 1, 2)] = ([0, 1], 0) := by kernel_rfl
end Go.Proofs.YtpggamapmgpjcaaGreatDoor
