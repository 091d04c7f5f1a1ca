/- The walk of extract.Point. Conditions: lengths that fit memory. -/
import Derived.Test.YtpggamapmgpjcaaGreatDoorK31
import Derived.Test.YtpggamapmgpjcaaGreatDoorK32
import Derived.RangeFuncOwn

namespace Go.Proofs.YtpggamapmgpjcaaGreatDoor
open Go Go.RowKit Go.Proofs

/-- what extract.Point answers -/
def XPoint (w : World) (l : List Int) (q : Int) (e : Ending) (w' : World) : Prop := ∃ A c, e = .returned (.tuple #[.slice A l.length c, .int .i64 q]) ∧ Ints w' w'.heap.size A l ∧ Below w.heap.size w w'
def rowI (o : List Int) : Array Value := (o.map (Value.int .i64)).toArray
theorem pointGo_cons (e1 e2 : Int) (L : List StM) (s : StM) (r : List StM) (o : List Int) : pointGo e1 e2 L (s :: r) o = if s ∈ L then (if o[L.idxOf s]? = some 1 then ([], e2) else pointGo e1 e2 L r (o.set (L.idxOf s) 1)) else ([], e1) := rfl
theorem pointGo_nil (e1 e2 : Int) (L : List StM) (o : List Int) : pointGo e1 e2 L [] o = (o, 0) := rfl
theorem ints_nil (W : World) (A : Option Addr) : Ints W W.heap.size A [] := ⟨rfl, fun h0 => absurd h0 (by simp)⟩
set_option maxRecDepth 100000 in
set_option maxHeartbeats 4000000 in
theorem xpoint_no (h : MH) (m : Mod) (P : Array Value) (w : World) (d : MD w w.heap.size h m) (k1 : m.racks.length ≤ h.rc) (k2 : m.machs.length ≤ h.mc) (k3 : m.links.length ≤ h.lc) (ha : Asc w) (hc : (choR m).2 ≠ 0) (Ap : Option Addr) (n cp : Nat) (hP : P = #[.slice Ap n cp]) :
    Calls Tryz.prog 12 #[.agg #[.slice h.s m.sites.length h.sc, .slice h.f m.feeds.length h.fc, .slice h.r m.racks.length h.rc, .slice h.m m.machs.length h.mc, .slice h.l m.links.length h.lc, .slice h.i m.items.length h.ic, .int .i64 m.dark, .int .i64 m.slots, .int .i64 m.reserve, .int .i64 m.failures, .slice h.u m.rules.length h.uc], .agg P] w (XPoint w [] (choR m).2) := by
  subst hP
  have hb := ((Below.refl w.heap.size w).alloc (Nat.le_refl _) (.cells #[.slice h.s m.sites.length h.sc, .slice h.f m.feeds.length h.fc, .slice h.r m.racks.length h.rc, .slice h.m m.machs.length h.mc, .slice h.l m.links.length h.lc, .slice h.i m.items.length h.ic, .int .i64 m.dark, .int .i64 m.slots, .int .i64 m.reserve, .int .i64 m.failures, .slice h.u m.rules.length h.uc] 29)).alloc (by simp) (.cells #[.slice Ap n cp] 35)
  have HB := hide hb
  have HST := hide (steps_prog h m _ (d.grow hb) k1 k2 k3 (ha.below (Nat.le_refl _) hb))
  rw [show stepsR m = ([], (choR m).2) by rw [stepsR, if_pos hc]] at HST
  obtain ⟨q, hq⟩ : ∃ q, q = (choR m).2 := ⟨_, rfl⟩
  rw [← hq] at HST hc ⊢
  have g : (q != 0) = true := by simpa using hc
  clear hb d k1 k2 k3 ha hc hq
  go_enter Tryz.func12, Tryz.ntmps12
  go_wp2_with (go_at_call 21; refine HST.out.mono ?_; rintro e w1 ⟨A, c, rfl, _, hb1⟩; have HB1 := hide (HB.out.trans (hb1.mono HB.out.size)); clear hb1)
  go_ret2
  exact ⟨none, 0, rfl, ints_nil _ _, HB1.out⟩
theorem made_zero (n : Nat) : madeCells (Value.int .i64 0).cells n = rowI (List.replicate n 0) := by
  apply Array.ext
  · simp [madeCells, rowI]
  · intro i h1 h2
    simp [madeCells, rowI, Value.cells, Nat.mod_one]
set_option maxRecDepth 100000 in
theorem make_row (W : World) (n : Nat) (hn : n ≤ 48000) : (Instr.makeSlice 30 (.int .i64 (n : Int)) (.int .i64 (n : Int))).run Tryz.prog W = .ok (.slice (some ⟨W.heap.size, 0, none⟩) n n) (W.alloc (.cells (rowI (List.replicate n 0)) 2)) := by
  have e : (Tryz.prog.info? 2).map (fun i => (i.zero, i.size, i.bytes)) = some (some (.int .i64 0), 1, 8) := by kernel_rfl
  obtain ⟨i0, hi, hz0, hz1, hz2⟩ := info_parts e
  have := run_make (P := Tryz.prog) W 30 2 i0 _ Tryz.underlying30 hi hz0 .i64 .i64 n n (by omega) (Int.le_refl _) (by rw [hz2]; omega) (by omega)
  rw [this, hz1, Nat.mul_one, Int.toNat_natCast, made_zero]
theorem row_cell {W : World} {b : Nat} {T : TypeId} {o : List Int} {k : Nat} {v : Int} (h : Blk W b T (rowI o)) (hk : o[k]? = some v) : W.cell? ⟨b, k, none⟩ = some (.int .i64 v) := by
  rw [h.cell k]; simp [rowI, hk]
theorem row_set {W : World} {b : Nat} {T : TypeId} {o : List Int} (h : Blk W b T (rowI o)) (k : Nat) (v : Int) : Blk (W.setCell ⟨b, k, none⟩ (.int .i64 v)) b T (rowI (o.set k v)) := by
  have := h.set_ k (.int .i64 v)
  have e : (rowI o).setIfInBounds k (.int .i64 v) = rowI (o.set k v) := by
    apply Array.ext'
    simp [rowI, List.map_set]
  rwa [e] at this
theorem row_ints {W : World} {b : Nat} {T : TypeId} {o : List Int} (h : Blk W b T (rowI o)) : Ints W W.heap.size (some ⟨b, 0, none⟩) o := by
  refine ⟨by simp, fun _ => ⟨_, rfl, h.lt, fun j u hu => ?_⟩⟩
  rw [add_none, Nat.zero_add, h.cell j]
  simpa [rowI] using hu
set_option maxRecDepth 100000 in
set_option maxHeartbeats 8000000 in
theorem xpoint_yes (h : MH) (m : Mod) (Ap : Option Addr) (p : List StM) (cp : Nat) (w : World) (d : MD w w.heap.size h m) (k1 : m.racks.length ≤ h.rc) (k2 : m.machs.length ≤ h.mc) (k3 : m.links.length ≤ h.lc) (ha : Asc w) (hp : RdE elSt w Ap p) (hpl : p.length ≤ 1000000) (hc : (choR m).2 = 0) :
    Calls Tryz.prog 12 #[.agg #[.slice h.s m.sites.length h.sc, .slice h.f m.feeds.length h.fc, .slice h.r m.racks.length h.rc, .slice h.m m.machs.length h.mc, .slice h.l m.links.length h.lc, .slice h.i m.items.length h.ic, .int .i64 m.dark, .int .i64 m.slots, .int .i64 m.reserve, .int .i64 m.failures, .slice h.u m.rules.length h.uc], .agg #[.slice Ap p.length cp]] w (XPoint w (pointGo 6 5 (stepsM m) p (List.replicate (stepsM m).length 0)).1 (pointGo 6 5 (stepsM m) p (List.replicate (stepsM m).length 0)).2) := by
  have hb := ((Below.refl w.heap.size w).alloc (Nat.le_refl _) (.cells #[.slice h.s m.sites.length h.sc, .slice h.f m.feeds.length h.fc, .slice h.r m.racks.length h.rc, .slice h.m m.machs.length h.mc, .slice h.l m.links.length h.lc, .slice h.i m.items.length h.ic, .int .i64 m.dark, .int .i64 m.slots, .int .i64 m.reserve, .int .i64 m.failures, .slice h.u m.rules.length h.uc] 29)).alloc (by simp) (.cells #[.slice Ap p.length cp] 35)
  have HB := hide hb
  have hst := steps_prog h m _ (d.grow hb) k1 k2 k3 (ha.below (Nat.le_refl _) hb)
  have HP0 := hide (show Blk ((w.alloc (.cells #[.slice h.s m.sites.length h.sc, .slice h.f m.feeds.length h.fc, .slice h.r m.racks.length h.rc, .slice h.m m.machs.length h.mc, .slice h.l m.links.length h.lc, .slice h.i m.items.length h.ic, .int .i64 m.dark, .int .i64 m.slots, .int .i64 m.reserve, .int .i64 m.failures, .slice h.u m.rules.length h.uc] 29)).alloc (.cells #[.slice Ap p.length cp] 35)) (w.heap.size + 1) 35 #[.slice Ap p.length cp] from by simpa using Blk.new (w.alloc (.cells #[.slice h.s m.sites.length h.sc, .slice h.f m.feeds.length h.fc, .slice h.r m.racks.length h.rc, .slice h.m m.machs.length h.mc, .slice h.l m.links.length h.lc, .slice h.i m.items.length h.ic, .int .i64 m.dark, .int .i64 m.slots, .int .i64 m.reserve, .int .i64 m.failures, .slice h.u m.rules.length h.uc] 29)) 35 #[.slice Ap p.length cp])
  rw [show stepsR m = (stepsM m, 0) by rw [stepsR, if_neg (by simpa using hc)]] at hst
  have HST := hide hst
  dsimp only at HST
  obtain ⟨hv, _, _⟩ := choR_ok hc
  have hsl := steps_len hv
  have hnd := steps_nodup m
  obtain ⟨L, hL⟩ : ∃ L, L = stepsM m := ⟨_, rfl⟩
  rw [← hL] at HST hsl hnd ⊢
  obtain ⟨n, hn⟩ : ∃ n, n = L.length := ⟨_, rfl⟩
  rw [← hn] at hsl
  have HN := hide hn
  have HND := hide hnd
  have HPR := hide hp
  clear hb d k1 k2 k3 ha hc hst hv hL hp hn hnd
  have hmm := @run_makeMap Tryz.prog
  go_enter Tryz.func12, Tryz.ntmps12
  go_wp2_with (go_at_call 21; refine HST.out.mono ?_; rintro e w1 ⟨A, c, rfl, hrd, hb1⟩
               have HP := hide (HP0.out.below hb1 HP0.out.lt)
               have HB1 := hide (HB.out.trans (hb1.mono HB.out.size))
               have HRD := hide hrd
               rw [← HN.out]
               clear hb1 hrd)
  have HM0 := hide (show (w1.alloc (.map #[] 0)).heap[w1.heap.size]? = some (.map (entsS (L.take 0) 0).toArray 0) from by simpa [entsS] using heap_alloc_new w1 _)
  have HB0 := hide ((Below.refl w1.heap.size w1).alloc (Nat.le_refl _) (.map #[] 0))
  go_loopw [27] (fun i wr => ∃ k : Nat, k ≤ n ∧ i = .int .i64 k ∧ Hid (wr.heap[w1.heap.size]? = some (.map (entsS (L.take k) 0).toArray k)) ∧ Hid (Below w1.heap.size w1 wr)) (fun i _ => n - (intOf i).toNat)
  case atStart => exact ⟨0, Nat.zero_le _, rfl, HM0, HB0⟩
  case round =>
    obtain ⟨k, hk, rfl, hM, hbr⟩ := hrel
    clear HM0 HB0
    by_cases hlt : k < n
    · have hkL : k < L.length := by rw [← HN.out]; exact hlt
      obtain ⟨b, o, hA, hbl, y0, y1, y2, y3⟩ := rd_st (RdE.grow HRD.out hbr.out) hkL
      obtain ⟨s, hs⟩ : ∃ s, s = L[k] := ⟨_, rfl⟩
      rw [← hs] at y0 y1 y2 y3
      have hnew : s ∉ L.take k := by
        intro hm
        obtain ⟨j, hj, e⟩ := List.getElem_of_mem hm
        rw [List.getElem_take] at e
        have hj2 : j < k := by simp at hj; omega
        exact at_ne HND.out (by omega) hkL (by omega) (e.trans hs)
      have hsz : (w1.heap.size) < wr.heap.size := (Array.getElem?_eq_some_iff.1 hM.out).1
      have hM2 : (wr.alloc (.cells #[.int .i64 s.1, .int .i64 s.2.1, .int .i64 s.2.2.1, .int .i64 s.2.2.2] 53)).heap[w1.heap.size]? = some (.map (entsS (L.take k) 0).toArray (L.take k).length) := by
        rw [Below.heap_alloc wr _ _ hsz, hM.out, List.length_take, Nat.min_eq_left (by omega)]
      have hput := run_put_st s hnew (.int .i64 (k : Int)) (by rw [List.length_take, Nat.min_eq_left (by omega)]) hM2
      have HE := hide (show L.take k ++ [s] = L.take (k + 1) by rw [List.take_succ_eq_append_getElem hkL, hs])
      rw [HE.out, List.length_take, Nat.min_eq_left (by omega)] at hput
      simp only [stV] at hput
      have hltI : (k : Int) < (n : Int) := by omega
      have HM2 := hide hM2
      have HB2 := hide (hbr.out.alloc hbr.out.size (.cells #[.int .i64 s.1, .int .i64 s.2.1, .int .i64 s.2.2.1, .int .i64 s.2.2.2] 53))
      subst hA
      clear hs hnew hsz hM2 hM hbr
      go_wp2_with fail
      go_roundw
      case rel => exact ⟨k + 1, by omega, by go_num, hide (World.putObj_heap_same (Array.getElem?_eq_some_iff.1 HM2.out).1), hide (HB2.out.grown (grownBy_putObj' _ _ _) HB2.out.size (fun g e => by cases e; exact Nat.le_refl _))⟩
      case measure => simp [intOf]; omega
    · obtain rfl : k = n := by omega
      have hM2 := hM.out
      rw [List.take_of_length_le (by rw [← HN.out]; exact Nat.le_refl _)] at hM2
      have HM := hide hM2
      have hP := HP.out.below hbr.out HP.out.lt
      have p0 := hP.cell 0
      have l0 := hP.lt
      simp at p0
      have hmk := fun W => make_row W k hsl
      have HPB := hide hP
      clear hM hM2 hP
      have HB9 := hide (hbr.out.alloc hbr.out.size (.cells (rowI (List.replicate k 0)) 2))
      have HO9 := hide (Blk.new wr 2 (rowI (List.replicate k 0)))
      have HM9 := hide (show (wr.alloc (.cells (rowI (List.replicate k 0)) 2)).heap[w1.heap.size]? = some (.map (entsS L 0).toArray k) by
        rw [Below.heap_alloc wr _ _ (Array.getElem?_eq_some_iff.1 HM.out).1]; exact HM.out)
      have HW9 := hide (show w1.heap.size < wr.heap.size from (Array.getElem?_eq_some_iff.1 HM.out).1)
      obtain ⟨bo, hbo⟩ : ∃ bo, bo = wr.heap.size := ⟨_, rfl⟩
      have HZ := hide (show (List.replicate L.length (0 : Int)) = List.replicate k 0 by rw [HN.out])
      rw [HZ.out]
      rw [← hbo] at HO9 HW9
      go_wp2_with fail
      rw [← hbo]
      clear hbo
      go_loopw [42] (fun i wr2 => ∃ (j : Nat) (o : List Int), j ≤ p.length ∧ i = .int .i64 j ∧ o.length = k ∧ Hid (pointGo 6 5 L (p.drop j) o = pointGo 6 5 L p (List.replicate k 0)) ∧ Hid (Blk wr2 bo 2 (rowI o)) ∧ Hid (wr2.heap[w1.heap.size]? = some (.map (entsS L 0).toArray k)) ∧ Hid (Below w1.heap.size w1 wr2)) (fun i _ => p.length - (intOf i).toNat)
      case atStart => exact ⟨0, List.replicate k 0, Nat.zero_le _, rfl, by simp, hide rfl, HO9, HM9, HB9⟩
      case round =>
        obtain ⟨j, o, hj, rfl, hol, hgo, hO, hM, hb2⟩ := hrel
        rename World => w5
        clear HO9 HM9 HB9 hmk
        by_cases hlj : j < p.length
        · obtain ⟨b2, o2, hA2, hbl2, y0, y1, y2, y3⟩ := rd_st (RdE.grow HPR.out (HB1.out.trans (hb2.out.mono HB1.out.size))) hlj
          obtain ⟨x, hx⟩ : ∃ x, x = p[j] := ⟨_, rfl⟩
          rw [← hx] at y0 y1 y2 y3
          have hd : p.drop j = x :: p.drop (j + 1) := by rw [List.drop_eq_getElem_cons hlj, hx]
          have hg2 := hgo.out
          rw [hd, pointGo_cons] at hg2
          have hsz : w1.heap.size < w5.heap.size := (Array.getElem?_eq_some_iff.1 hM.out).1
          have hM2 : (w5.alloc (.cells #[.int .i64 x.1, .int .i64 x.2.1, .int .i64 x.2.2.1, .int .i64 x.2.2.2] 53)).heap[w1.heap.size]? = some (.map (entsS L 0).toArray k) := by
            rw [Below.heap_alloc w5 _ _ hsz, hM.out]
          have hlook := run_look_st x hM2
          simp only [stV] at hlook
          have hltI : (j : Int) < (p.length : Int) := by omega
          have HB2 := hide (hb2.out.alloc hb2.out.size (.cells #[.int .i64 x.1, .int .i64 x.2.1, .int .i64 x.2.2.1, .int .i64 x.2.2.2] 53))
          have HO2 := hide (hO.out.alloc (.cells #[.int .i64 x.1, .int .i64 x.2.1, .int .i64 x.2.2.1, .int .i64 x.2.2.2] 53))
          have HM2 := hide hM2
          have hbo := hO.out.lt
          subst hA2
          clear hx hd hM2 hsz hgo
          by_cases hxL : x ∈ L
          · rw [if_pos hxL] at hg2 hlook
            have hdx : decide (x ∈ L) = true := decide_eq_true hxL
            rw [hdx] at hlook
            have hix : L.idxOf x < L.length := List.idxOf_lt_length_of_mem hxL
            obtain ⟨q, hq⟩ : ∃ q, q = L.idxOf x := ⟨_, rfl⟩
            rw [← hq] at hg2 hlook hix
            rw [← HN.out] at hix
            have hqo : q < o.length := by omega
            obtain ⟨v, hv⟩ : ∃ v, v = o[q] := ⟨_, rfl⟩
            have hvq : o[q]? = some v := by rw [List.getElem?_eq_getElem hqo, hv]
            have o0 := row_cell HO2.out hvq
            have f0 := HO2.out.frozen q
            have hqI : (q : Int) < (k : Int) := by omega
            rw [hvq] at hg2
            clear hdx hq hv hvq
            by_cases hv1 : v = 1
            · subst hv1
              rw [if_pos rfl] at hg2
              have HG := hide hg2
              clear hg2
              go_wp2_with fail
              go_ret2
              rw [HZ.out, ← HG.out]
              exact ⟨none, 0, rfl, ints_nil _ _, HB1.out.trans (HB2.out.mono HB1.out.size)⟩
            · rw [if_neg (by simpa using hv1)] at hg2
              have HG := hide hg2
              have g1 : (v == 1) = false := by simpa using hv1
              clear hg2 hv1
              go_wp2_with fail
              go_roundw
              case rel => exact ⟨j + 1, o.set q 1, by omega, by go_num, by rw [List.length_set]; exact hol, hide HG.out, hide ((row_set hO.out q 1).alloc _), hide ((Below.heap_alloc _ _ _ (by simp; exact (Array.getElem?_eq_some_iff.1 hM.out).1)).trans ((Below.heap_setCell _ _ _ _ (by exact Nat.ne_of_lt HW9.out)).trans hM.out)), hide ((hb2.out.setCell (Nat.le_of_lt HW9.out) _).alloc (by simp; exact hb2.out.size) _)⟩
              case measure => simp [intOf]; omega
          · rw [if_neg hxL] at hg2 hlook
            have hdx : decide (x ∈ L) = false := decide_eq_false hxL
            rw [hdx] at hlook
            have HG := hide hg2
            clear hg2 hdx
            go_wp2_with fail
            go_ret2
            rw [HZ.out, ← HG.out]
            exact ⟨none, 0, rfl, ints_nil _ _, HB1.out.trans (HB2.out.mono HB1.out.size)⟩
        · obtain rfl : j = p.length := by omega
          have hg2 := hgo.out
          rw [List.drop_length, pointGo_nil] at hg2
          have HG := hide hg2
          clear hg2
          go_wp2_with fail
          go_ret2
          rw [HZ.out, ← HG.out]
          exact ⟨_, k, by rw [hol]; rfl, row_ints hO.out, HB1.out.trans (hb2.out.mono HB1.out.size)⟩
/-- what extract.Point answers at a model and a plan -/
def xpointR (m : Mod) (p : List StM) : List Int × Int := if (choR m).2 ≠ 0 then ([], (choR m).2) else pointGo 6 5 (stepsM m) p (List.replicate (stepsM m).length 0)
theorem xpoint_prog (h : MH) (m : Mod) (Ap : Option Addr) (p : List StM) (cp : Nat) (w : World) (d : MD w w.heap.size h m) (k1 : m.racks.length ≤ h.rc) (k2 : m.machs.length ≤ h.mc) (k3 : m.links.length ≤ h.lc) (ha : Asc w) (hp : RdE elSt w Ap p) (hpl : p.length ≤ 1000000) :
    Calls Tryz.prog 12 #[.agg #[.slice h.s m.sites.length h.sc, .slice h.f m.feeds.length h.fc, .slice h.r m.racks.length h.rc, .slice h.m m.machs.length h.mc, .slice h.l m.links.length h.lc, .slice h.i m.items.length h.ic, .int .i64 m.dark, .int .i64 m.slots, .int .i64 m.reserve, .int .i64 m.failures, .slice h.u m.rules.length h.uc], .agg #[.slice Ap p.length cp]] w (XPoint w (xpointR m p).1 (xpointR m p).2) := by
  unfold xpointR
  by_cases hc : (choR m).2 = 0
  · rw [if_neg (by simpa using hc)]
    exact xpoint_yes h m Ap p cp w d k1 k2 k3 ha hp hpl hc
  · rw [if_pos hc]
    exact xpoint_no h m _ w d k1 k2 k3 ha hc Ap p.length cp rfl
end Go.Proofs.YtpggamapmgpjcaaGreatDoor
