/- The walks of exodusref15.Names, names, Machines, Item, Rule, Valid: whether a model is valid. Conditions: lengths that fit memory. -/
import Derived.Test.YtpggamapmgpjcaaGreatDoorK05
import Derived.Deep.RegionLaw

namespace Go.Proofs.YtpggamapmgpjcaaGreatDoor
open Go Go.RowKit Go.Proofs

theorem Strs.newRow2 (w : World) {b : Nat} (t : TypeId) (l : List ByteArray) (hb : b = w.heap.size) : Strs (w.alloc (.cells (l.map Value.string).toArray t)) (w.heap.size + 1) (some ⟨b, 0, none⟩) l := by
  subst hb; exact Strs.newRow w t l
theorem OwnS.form3 {B : Nat} {w : World} {v : Value} {l : List ByteArray} (h : OwnS B w v l) : ∃ A c, v = .slice A l.length c ∧ l.length ≤ c ∧ Strs w w.heap.size A l := by
  have h2 := h
  rcases h2.2 with ⟨rfl, h0⟩ | ⟨g, cap, cur, rfl, _, _, hc, _⟩
  · have : l = [] := List.eq_nil_of_length_eq_zero h0
    subst this
    exact ⟨none, 0, rfl, Nat.le_refl _, Reads.none_⟩
  · exact ⟨_, _, rfl, hc, Reads.of_own h⟩
theorem MW.drew {w wr : World} {bm : Nat} {h : MH} {m : Mod} (d : MW w bm wr h m) : MW w bm wr.drew h m := ⟨d.b.drew, d.blk⟩
theorem MW.grown {w wr w2 : World} {bm : Nat} {h : MH} {m : Mod} {v : Value} (d : MW w bm wr h m) (hg : wr.grownBy w2 v.ownBlock) (hB : ∀ k, v.ownBlock = some k → w.heap.size + 1 ≤ k) (hbm : bm ≤ w.heap.size) : MW w bm w2 h m :=
  ⟨d.b.grown hg d.b.size fun k hk => by have := hB k hk; omega, d.blk.grown hg fun e => by have := hB _ e.symm; omega⟩
/-- a model variable and a slice of strings of the call's own -/
structure NW (w wr : World) (h : MH) (m : Mod) (v : Value) (l : List ByteArray) : Prop where
  mw : MW w w.heap.size wr h m
  own : OwnS (w.heap.size + 1) wr v l
theorem NW.step {w wr w2 : World} {h : MH} {m : Mod} {v v2 : Value} {l l2 : List ByteArray} (d : NW w wr h m v l) (s : ByteArray) (hO : OwnS (w.heap.size + 1) w2 v2 l2) (hg : (wr.alloc (.cells #[.string s] 9)).grownBy w2 v.ownBlock) : NW w w2 h m v2 l2 :=
  ⟨(d.mw.grow ((Below.refl _ _).alloc (Nat.le_refl _) _)).grown hg (fun k hk => (d.own.lt k hk).1) (Nat.le_refl _), hO⟩

def nmR (m : Mod) (k : Nat) : List ByteArray := m.sites ++ m.feeds ++ (m.racks.take k).map (·.name)
def nmM (m : Mod) (k : Nat) : List ByteArray := nmR m m.racks.length ++ (m.machs.take k).map (·.name)
def nmI (m : Mod) (k : Nat) : List ByteArray := nmM m m.machs.length ++ (m.items.take k).map (·.name)
theorem nmR_0 (m : Mod) : m.sites ++ m.feeds = nmR m 0 := by simp [nmR]
theorem nmM_0 (m : Mod) : nmR m m.racks.length = nmM m 0 := by simp [nmM]
theorem nmI_0 (m : Mod) : nmM m m.machs.length = nmI m 0 := by simp [nmI]
theorem nmI_all (m : Mod) : nmI m m.items.length = nameList m := by simp [nmI, nmM, nmR, nameList]
theorem nmR_succ (m : Mod) {k : Nat} (h : k < m.racks.length) : nmR m k ++ [m.racks[k].name] = nmR m (k + 1) := by
  unfold nmR
  rw [List.take_succ_eq_append_getElem h, List.map_append, ← List.append_assoc]; rfl
theorem nmM_succ (m : Mod) {k : Nat} (h : k < m.machs.length) : nmM m k ++ [m.machs[k].name] = nmM m (k + 1) := by
  unfold nmM
  rw [List.take_succ_eq_append_getElem h, List.map_append, ← List.append_assoc]; rfl
theorem nmI_succ (m : Mod) {k : Nat} (h : k < m.items.length) : nmI m k ++ [m.items[k].name] = nmI m (k + 1) := by
  unfold nmI
  rw [List.take_succ_eq_append_getElem h, List.map_append, ← List.append_assoc]; rfl
theorem nm_len {m : Mod} (q1 : m.sites.length ≤ 100) (q2 : m.feeds.length ≤ 100) (q3 : m.racks.length ≤ 100) (q4 : m.machs.length ≤ 100) (q5 : m.items.length ≤ 100) (k : Nat) : (nmR m k).length ≤ 600 ∧ (nmM m k).length ≤ 600 ∧ (nmI m k).length ≤ 600 := by
  simp [nmR, nmM, nmI]; omega

set_option maxRecDepth 100000 in
set_option maxHeartbeats 8000000 in
theorem names15_ref (h : MH) (m : Mod) (w : World) (d : MD w w.heap.size h m) (q1 : m.sites.length ≤ 100) (q2 : m.feeds.length ≤ 100) (q3 : m.racks.length ≤ 100) (q4 : m.machs.length ≤ 100) (q5 : m.items.length ≤ 100) :
    Calls Tryz.prog 165 #[.agg #[.slice h.s m.sites.length h.sc, .slice h.f m.feeds.length h.fc, .slice h.r m.racks.length h.rc, .slice h.m m.machs.length h.mc, .slice h.l m.links.length h.lc, .slice h.i m.items.length h.ic, .int .i64 m.dark, .int .i64 m.slots, .int .i64 m.reserve, .int .i64 m.failures, .slice h.u m.rules.length h.uc]] w fun e w' => ∃ A c, e = .returned (.slice A (nameList m).length c) ∧ (nameList m).length ≤ c ∧ Strs w' w'.heap.size A (nameList m) ∧ Below w.heap.size w w' := by
  have hO0 : OwnS (w.heap.size + 1) ((w.alloc (.cells #[.slice h.s m.sites.length h.sc, .slice h.f m.feeds.length h.fc, .slice h.r m.racks.length h.rc, .slice h.m m.machs.length h.mc, .slice h.l m.links.length h.lc, .slice h.i m.items.length h.ic, .int .i64 m.dark, .int .i64 m.slots, .int .i64 m.reserve, .int .i64 m.failures, .slice h.u m.rules.length h.uc] 29)).alloc (.cells #[] 9)) (.slice (some ⟨w.heap.size + 1, 0, none⟩) 0 0) [] := by
    have := OwnS.new (B := w.heap.size + 1) (w.alloc (.cells #[.slice h.s m.sites.length h.sc, .slice h.f m.feeds.length h.fc, .slice h.r m.racks.length h.rc, .slice h.m m.machs.length h.mc, .slice h.l m.links.length h.lc, .slice h.i m.items.length h.ic, .int .i64 m.dark, .int .i64 m.slots, .int .i64 m.reserve, .int .i64 m.failures, .slice h.u m.rules.length h.uc] 29)) [] (by simp) (by decide)
    simpa using this
  have hM0 := (MW.start w h m).grow ((Below.refl _ _).alloc (Nat.le_refl _) (.cells #[] 9))
  have hdS := (hM0.md d).dS
  have H0 := hide (And.intro hO0 (And.intro hM0 hdS))
  clear hO0 hM0 hdS
  have D := hide d; clear d
  go_enter Tryz.func165, Tryz.ntmps165
  go_wp2_with fail
  go_region_law
    ((first
      | (refine step_append_strs rfl _ _ rfl (w.heap.size + 1) (.slice (some ⟨w.heap.size + 1, 0, none⟩) 0 0) [] rfl (OwnS.drew H0.out.1) _ h.s h.sc m.sites rfl H0.out.2.2 (by simp; omega) (by simp) ?_; intro v1 w1 hO1 hg1 hv1; rw [List.nil_append] at hO1
         have hM1 := H0.out.2.1.drew.grown hg1 (fun k hk => ((OwnS.drew H0.out.1).lt k hk).1) (Nat.le_refl _)
         obtain ⟨a0, a1, a2, a3, a4, a5, a6, a7, a8, a9, a10⟩ := MB.cells hM1.blk
         have hF1 := (hM1.md D.out).dF
         have hL1 := hM1.lt
         clear a0 a2 a3 a4 a5 a6 a7 a8 a9 a10 hg1 hv1)
      | (refine step_append_strs rfl _ _ rfl (w.heap.size + 1) v1 m.sites rfl hO1 _ h.f h.fc m.feeds rfl hF1 (by omega) (by omega) ?_; intro v2 w2 hO2 hg2 hv2
         have hM2 := hM1.grown hg2 (fun k hk => (hO1.lt k hk).1) (Nat.le_refl _)
         clear hv2 hg2)))
  all_goals
    have hN2 : NW w w2 h m v2 (nmR m 0) := ⟨hM2, by rw [← nmR_0]; exact hO2⟩
    have HN2 := hide hN2
    have HL := hide (nm_len q1 q2 q3 q4 q5)
    clear hM2 hO2 hM1 hO1 hF1 a1 hL1 hN2
    go_wp2_with fail
    go_loopw [3, 4] (fun v i wr => ∃ k : Nat, k ≤ m.racks.length ∧ i = .int .i64 k ∧ Hid (NW w wr h m v (nmR m k))) (fun _ i _ => m.racks.length - (intOf i).toNat)
    case atStart => exact ⟨0, Nat.zero_le _, rfl, HN2⟩
    case round =>
      obtain ⟨k, hk, rfl, hN⟩ := hrel
      obtain ⟨a0, a1, a2, a3, a4, a5, a6, a7, a8, a9, a10⟩ := MB.cells hN.out.mw.blk
      have hL1 := hN.out.mw.lt
      clear a0 a1 a4 a5 a6 a7 a8 a9 a10
      by_cases hlt : k < m.racks.length
      · obtain ⟨b, off, hA, hb, x0, x1, x2, _⟩ := (hN.out.mw.md D.out).dR.rack hlt
        rw [hA] at a2
        have E := hide (nmR_succ m hlt)
        clear hA x1 x2
        have hlen := (HL.out k).1
        go_wp2_with (at_builtin; refine append_strs rfl _ _ rfl (w.heap.size + 1) _ (nmR m k) rfl (hN.out.own.alloc _) _ _ 1 [m.racks[k].name] rfl (Strs.newRow2 wr 9 [m.racks[k].name] rfl) (by simp; omega) (by simp; omega) ?_; intro v3 x3 hO3 hg3 _; have hN3 := hN.out.step m.racks[k].name hO3 hg3; rw [E.out] at hN3; clear hO3 hg3)
        go_roundw
        case rel => exact ⟨k + 1, by omega, by go_num, hN3⟩
        case measure => simp [intOf]; omega
      · obtain rfl : k = m.racks.length := by omega
        go_wp2_with fail
        rw [nmM_0] at hN
        go_loopw [3, 5] (fun v i wr => ∃ k : Nat, k ≤ m.machs.length ∧ i = .int .i64 k ∧ Hid (NW w wr h m v (nmM m k))) (fun _ i _ => m.machs.length - (intOf i).toNat)
        case atStart => exact ⟨0, Nat.zero_le _, rfl, hN⟩
        case round =>
          clear hN a2 a3 hL1
          obtain ⟨k, hk, rfl, hN⟩ := hrel
          obtain ⟨a0, a1, a2, a3, a4, a5, a6, a7, a8, a9, a10⟩ := MB.cells hN.out.mw.blk
          have hL1 := hN.out.mw.lt
          clear a0 a1 a2 a4 a6 a7 a8 a9 a10
          by_cases hlt : k < m.machs.length
          · obtain ⟨b, off, hA, hb, x0, x1, x2, _⟩ := (hN.out.mw.md D.out).dM.mach hlt
            rw [hA] at a3
            have E := hide (nmM_succ m hlt)
            clear hA x1 x2
            have hlen := (HL.out k).2.1
            go_wp2_with (at_builtin; refine append_strs rfl _ _ rfl (w.heap.size + 1) _ (nmM m k) rfl (hN.out.own.alloc _) _ _ 1 [m.machs[k].name] rfl (Strs.newRow2 _ 9 [m.machs[k].name] rfl) (by simp; omega) (by simp; omega) ?_; intro v3 x3 hO3 hg3 _; have hN3 := hN.out.step m.machs[k].name hO3 hg3; rw [E.out] at hN3; clear hO3 hg3)
            go_roundw
            case rel => exact ⟨k + 1, by omega, by go_num, hN3⟩
            case measure => simp [intOf]; omega
          · obtain rfl : k = m.machs.length := by omega
            go_wp2_with fail
            rw [nmI_0] at hN
            go_loopw [3, 6] (fun v i wr => ∃ k : Nat, k ≤ m.items.length ∧ i = .int .i64 k ∧ Hid (NW w wr h m v (nmI m k))) (fun _ i _ => m.items.length - (intOf i).toNat)
            case atStart => exact ⟨0, Nat.zero_le _, rfl, hN⟩
            case round =>
              clear hN a3 a5 hL1
              obtain ⟨k, hk, rfl, hN⟩ := hrel
              obtain ⟨a0, a1, a2, a3, a4, a5, a6, a7, a8, a9, a10⟩ := MB.cells hN.out.mw.blk
              have hL1 := hN.out.mw.lt
              clear a0 a1 a2 a3 a4 a6 a7 a8 a9 a10
              by_cases hlt : k < m.items.length
              · obtain ⟨b, off, A2, c2, hA, hb, x0, x1, x2, x3, x4, x5, x6, _⟩ := (hN.out.mw.md D.out).dI.item hlt
                rw [hA] at a5
                have E := hide (nmI_succ m hlt)
                clear hA x1 x2 x3 x4 x5 x6
                have hlen := (HL.out k).2.2
                go_wp2_with (at_builtin; refine append_strs rfl _ _ rfl (w.heap.size + 1) _ (nmI m k) rfl (hN.out.own.alloc _) _ _ 1 [m.items[k].name] rfl (Strs.newRow2 _ 9 [m.items[k].name] rfl) (by simp; omega) (by simp; omega) ?_; intro v3 x3 hO3 hg3 _; have hN3 := hN.out.step m.items[k].name hO3 hg3; rw [E.out] at hN3; clear hO3 hg3)
                go_roundw
                case rel => exact ⟨k + 1, by omega, by go_num, hN3⟩
                case measure => simp [intOf]; omega
              · obtain rfl : k = m.items.length := by omega
                obtain ⟨A, c, hv, hc, hS⟩ := hN.out.own.form3
                have HV := hide hv
                clear hv
                go_wp2_with fail
                go_ret
                exact ⟨A, c, ret_congr (by rw [← nmI_all]; exact HV.out), by rw [← nmI_all]; exact hc, by rw [← nmI_all]; exact hS, hN.out.mw.b⟩
end Go.Proofs.YtpggamapmgpjcaaGreatDoor
