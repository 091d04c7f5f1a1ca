/- The walk of exoduslaw58.CensusPlacements: it answers true. Conditions: lengths that fit memory; the tables are laid. -/
import Derived.Test.YtaepcjklimigmaaGreatDoorK30
import Derived.Test.YtaepcjklimigmaaGreatDoorK31
import Derived.Test.YtaepcjklimigmaaGreatDoorK35

namespace Go.Proofs.YtaepcjklimigmaaGreatDoor
open Go Go.RowKit Go.Proofs

theorem short_places {m : Mod} {l : List EvM} (hi : m.items.length ≤ 1000) (ho : ∀ x ∈ m.items, x.on.length ≤ 100) (hl : ∀ x ∈ l, x.old.length ≤ 10) (h60 : l.length ≤ 60) : ∀ k, k ≤ l.length → ∀ p ∈ placesM m (l.take k), Short p
  | 0, _ => fun p hp => by
    obtain rfl : p = initP m := by simpa [placesM, placesGo] using hp
    exact (Room.placeAt hi ho hl 0).short (by omega)
  | k + 1, hk => fun p hp => by
    rw [placesM_succ (by omega)] at hp
    rcases List.mem_append.1 hp with h | h
    · exact short_places hi ho hl h60 k (by omega) p h
    · split at h
      · obtain rfl : p = placeAt m l (k + 1) := by simpa using h
        exact (Room.placeAt hi ho hl (k + 1)).short (by omega)
      · simp at h
theorem places_len (m : Mod) (l : List EvM) : (placesM m l).length ≤ l.length + 1 := by
  rw [placesM, List.length_cons]
  exact Nat.succ_le_succ (placesGo_len m l _)
set_option maxRecDepth 100000 in
set_option maxHeartbeats 4000000 in
theorem censusPlacements_walk (h : MH) (m : Mod) (l : List EvM) (A : Option Addr) (c : Nat) (w : World) (d : MD w w.heap.size h m) (k1 : m.racks.length ≤ h.rc) (k2 : m.machs.length ≤ h.mc) (k3 : m.links.length ≤ h.lc)
    (hE : Rows encEv 22 w w.heap.size A l) (hl : l.length ≤ 9223372036854775807) (ha : Asc w) (hpw : Pow w) :
    Calls Tryz.prog 3 #[.agg #[.slice h.s m.sites.length h.sc, .slice h.f m.feeds.length h.fc, .slice h.r m.racks.length h.rc, .slice h.m m.machs.length h.mc, .slice h.l m.links.length h.lc, .slice h.i m.items.length h.ic, .int .i64 m.dark, .int .i64 m.slots, .int .i64 m.reserve, .int .i64 m.failures, .slice h.u m.rules.length h.uc], .slice A l.length c] w (fun e w' => e = .returned (.bool true) ∧ Below w.heap.size w w') := by
  have hb := (Below.refl w.heap.size w).alloc (Nat.le_refl _) (.cells #[.slice h.s m.sites.length h.sc, .slice h.f m.feeds.length h.fc, .slice h.r m.racks.length h.rc, .slice h.m m.machs.length h.mc, .slice h.l m.links.length h.lc, .slice h.i m.items.length h.ic, .int .i64 m.dark, .int .i64 m.slots, .int .i64 m.reserve, .int .i64 m.failures, .slice h.u m.rules.length h.uc] 29)
  have HB := hide hb
  have HM0 := hide (Blk.new w 29 #[.slice h.s m.sites.length h.sc, .slice h.f m.feeds.length h.fc, .slice h.r m.racks.length h.rc, .slice h.m m.machs.length h.mc, .slice h.l m.links.length h.lc, .slice h.i m.items.length h.ic, .int .i64 m.dark, .int .i64 m.slots, .int .i64 m.reserve, .int .i64 m.failures, .slice h.u m.rules.length h.uc])
  have HFW := hide (few58_ref h m l A c 40 _ (d.grow hb) (hE.grow hb) hl)
  have HAW := hide (fun W (hW : Below w.heap.size w W) => awake58 W (ha.below (Nat.le_refl _) hW) (hpw.below (Nat.le_refl _) hW))
  have HD := hide (fun W (hW : Below w.heap.size w W) => And.intro (d.grow hW) (hE.grow hW))
  have HA := hide ha
  have HK := hide (And.intro k1 (And.intro k2 k3))
  clear hb d k1 k2 k3 hE ha hpw hl
  go_enter Tryz.func3, Tryz.ntmps3
  go_wp2_with (first
    | (go_at_call 10; refine HFW.out.mono ?_; rintro e w1 ⟨b, rfl, hb1, hq⟩
       have hm1 := HM0.out.below hb1 (by simp)
       obtain ⟨a0, a1, a2, a3, a4, a5, a6, a7, a8, a9, a10⟩ := MB.cells hm1
       have lt1 := hm1.lt
       have HB1 := hide (HB.out.trans (hb1.mono (by simp)))
       have HM1 := hide hm1
       have HQ := hide hq
       clear hm1 hb1 hq
       cases b)
    | (go_at_call 11; refine (HAW.out _ HB1.out).mono ?_; rintro e w2 ⟨rfl, hb2⟩
       have HB2 := hide (HB1.out.trans (hb2.mono HB1.out.size))
       clear hb2))
  · go_ret
    exact ⟨rfl, HB2.out⟩
  · obtain ⟨hv, hl40, hold⟩ := HQ.out trivial
    obtain ⟨s1, s2, s3, s4, s5, s6⟩ := valid_sizes hv
    have HP := hide (fun W (hW : Below w.heap.size w W) => placements_prog h m l A c W (HD.out W hW).1 HK.out.1 HK.out.2.1 HK.out.2.2 (HA.out.below (Nat.le_refl _) hW) hv (HD.out W hW).2 (by omega) (by omega) (fun y hy => by have := valid_on hv hy; omega) (by omega) hold)
    have HR := hide (fun W (hW : Below w.heap.size w W) => places_ref h m l A c W (HD.out W hW).1 (fun y hy => valid_kind hv hy) (HD.out W hW).2 (by omega) (by omega) (fun y hy => by have := valid_on hv hy; omega) (by omega) hold)
    have HSH := hide (short_places (m := m) (l := l) (by omega) (fun y hy => by have := valid_on hv hy; omega) hold (by omega) l.length (Nat.le_refl _))
    rw [List.take_length] at HSH
    have HSM := hide (fun W A1 A2 c1 c2 h1 h2 => samePlaces_ref A1 A2 c1 c2 (placesM m l) W h1 h2 HSH.out (by have := places_len m l; omega))
    have HS := hide (MS.mk HM1.out HB1.out)
    clear HQ hv hl40 hold s1 s2 s3 s4 s5 s6 a0 a1 a2 a3 a4 a5 a6 a7 a8 a9 a10 lt1
    go_region_held3 (fun W => (W.cell? ⟨w.heap.size, 0, none⟩ = some (.slice h.s m.sites.length h.sc) ∧ W.cell? ⟨w.heap.size, 1, none⟩ = some (.slice h.f m.feeds.length h.fc) ∧ W.cell? ⟨w.heap.size, 2, none⟩ = some (.slice h.r m.racks.length h.rc) ∧ W.cell? ⟨w.heap.size, 3, none⟩ = some (.slice h.m m.machs.length h.mc) ∧ W.cell? ⟨w.heap.size, 4, none⟩ = some (.slice h.l m.links.length h.lc) ∧ W.cell? ⟨w.heap.size, 5, none⟩ = some (.slice h.i m.items.length h.ic) ∧ W.cell? ⟨w.heap.size, 6, none⟩ = some (.int .i64 m.dark) ∧ W.cell? ⟨w.heap.size, 7, none⟩ = some (.int .i64 m.slots) ∧ W.cell? ⟨w.heap.size, 8, none⟩ = some (.int .i64 m.reserve) ∧ W.cell? ⟨w.heap.size, 9, none⟩ = some (.int .i64 m.failures) ∧ W.cell? ⟨w.heap.size, 10, none⟩ = some (.slice h.u m.rules.length h.uc)) ∧ MS w #[.slice h.s m.sites.length h.sc, .slice h.f m.feeds.length h.fc, .slice h.r m.racks.length h.rc, .slice h.m m.machs.length h.mc, .slice h.l m.links.length h.lc, .slice h.i m.items.length h.ic, .int .i64 m.dark, .int .i64 m.slots, .int .i64 m.reserve, .int .i64 m.failures, .slice h.u m.rules.length h.uc] W)
      ((with_reducible (first | (go_keep; done) | exact ⟨MS.cells HS.out.drew, HS.out.drew⟩ | exact ⟨MS.cells c4, c4⟩ | exact ⟨MS.cells c3, c3⟩ | exact ⟨MS.cells c2, c2⟩ | exact ⟨MS.cells c1, c1⟩ | (have hH := (by assumption : _ ∧ MS _ _ _); exact ⟨MS.cells (MS.drew hH.2), MS.drew hH.2⟩))))
      ((first
        | (go_at_call 13; have hH := (by assumption : _ ∧ MS _ _ _); have hbw := MS.b hH.2; refine (HP.out _ hbw).mono ?_; rintro e w3 ⟨A3, c3, rfl, _, _, hp3, hb⟩; have c1 := MS.grow hH.2 hb; clear hb hH hbw)
        | (go_at_call 13; have hH := And.intro (MS.cells HS.out.drew) HS.out.drew; have hbw := MS.b hH.2; refine (HP.out _ hbw).mono ?_; rintro e w3 ⟨A3, c3, rfl, _, _, hp3, hb⟩; have c1 := MS.grow hH.2 hb; clear hb hH hbw)
        | (go_at_call 14; have hH := (by assumption : _ ∧ MS _ _ _); have hbw := MS.b hH.2; refine (HR.out _ hbw).mono ?_; rintro e w4 ⟨A4, c4, rfl, _, _, hp4, hb⟩; have hp34 := hp3.grow hb; have c2 := MS.grow hH.2 hb; clear hb hH hbw)
        | (go_at_call 14; have hbw := MS.b c1; refine (HR.out _ hbw).mono ?_; rintro e w4 ⟨A4, c4, rfl, _, _, hp4, hb⟩; have hp34 := hp3.grow hb; have c2 := MS.grow c1 hb; clear hb hbw)
        | (go_at_call 12; refine (HSM.out _ _ _ _ _ hp34 hp4).mono ?_; rintro e w5 ⟨rfl, hb⟩; have c3 := MS.grow c2 hb; clear hb)
        | (go_at_call 11; have hbw := MS.b c3; refine (HAW.out _ hbw).mono ?_; rintro e w6 ⟨rfl, hb⟩; have c4 := MS.grow c3 hb; clear hb hbw)))
    go_wp2_with fail
    go_ret
    exact ⟨rfl, c4.b⟩
end Go.Proofs.YtaepcjklimigmaaGreatDoor
