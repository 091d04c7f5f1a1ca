/- The walks of exodusref23.source, free, crosses, link and valid. Conditions: lengths that fit memory; a valid model. -/
import Derived.Test.YtpggamapmgpjcaaGreatDoorK17
import Derived.Test.YtpggamapmgpjcaaGreatDoorK04

namespace Go.Proofs.YtpggamapmgpjcaaGreatDoor
open Go Go.RowKit Go.Proofs

def crossB (m : Mod) (y : ItemM) (f t : Int) : Bool := decide (0 < y.size) && decide (domI m 4 (srcI y f) ≠ domI m 4 t)
/-- the reference's form of 'the move fits' -/
theorem fitY_ref (m : Mod) (y : ItemM) (f t : Int) : fitY m y f t = if (decide (y.kind = 1) && onB y f && decide (t = 0)) = true then true else (if y.kind = 1 then decide (f = 0) else onB y f) && (freeB m y t && (!crossB m y f t || decide (linkY m y f t ≠ 0))) := by
  have hl : decide (0 < linkY m y f t) = decide (linkY m y f t ≠ 0) := by
    have := (linkI_in m (domI m 4 (srcI y f)) (domI m 4 t)).1
    unfold linkY
    simp only [decide_eq_decide]
    omega
  have h0 : freeB m y 0 = false := freeB_zero
  unfold fitY shapeB
  rw [hl]
  by_cases hk : y.kind = 1
  · rw [if_pos hk, if_pos hk]
    by_cases ht : t = 0
    · subst ht
      cases ho : onB y f <;> simp [hk, h0, apartB]
    · have he : apartB m y f t = crossB m y f t := by simp [apartB, crossB, ht]
      rw [he]
      simp [ht, Bool.and_assoc]
  · rw [if_neg hk, if_neg hk]
    by_cases ht : t = 0
    · subst ht
      simp [hk, h0]
    · have he : apartB m y f t = crossB m y f t := by simp [apartB, crossB, ht]
      rw [he]
      simp [hk, Bool.and_assoc]
set_option maxRecDepth 100000 in
set_option maxHeartbeats 1000000 in
theorem sourceR (x : ItemM) (A : Option Addr) (c : Nat) (f : Int) (w : World) (hI : Ints w w.heap.size A x.on) (h0 : 0 < x.on.length) (hl : x.on.length ≤ 9223372036854775807) :
    Calls Tryz.prog 170 #[.agg #[.string x.name, .int .i64 x.kind, .int .i64 x.count, .int .i64 x.load, .int .i64 x.size, .int .i64 x.share, .slice A x.on.length c], .int .i64 f] w (AnsB w (.int .i64 (srcI x f))) := by
  have hb1 := (Below.refl w.heap.size w).alloc (Nat.le_refl _) (.cells #[.string x.name, .int .i64 x.kind, .int .i64 x.count, .int .i64 x.load, .int .i64 x.size, .int .i64 x.share, .slice A x.on.length c] 91)
  have HB := hide hb1
  by_cases hf : f = 0
  · have g : (f != 0) = false := by simpa using hf
    have HV := hide (show srcI x f = x.on[0] by rw [srcI, if_pos hf, headD_at h0])
    obtain ⟨b, off, hA, hb, hc⟩ := int_at (hI.grow hb1) h0
    have h0I : (0 : Int) < (x.on.length : Int) := by omega
    obtain ⟨v, hv⟩ : ∃ v, v = x.on[0] := ⟨_, rfl⟩
    rw [← hv] at HV hc
    rw [Nat.add_zero] at hc
    subst hA
    clear hf hb1 hI hv
    go_enter Tryz.func170, Tryz.ntmps170
    go_wp2_with fail
    go_ret
    exact ⟨ret_congr (by rw [HV.out]; rfl), HB.out⟩
  · have g : (f != 0) = true := by simpa using hf
    have HV := hide (show srcI x f = f by rw [srcI, if_neg hf])
    clear hf hb1 hI
    go_enter Tryz.func170, Tryz.ntmps170
    go_wp2_with fail
    go_ret
    exact ⟨ret_congr (by rw [HV.out]; rfl), HB.out⟩
theorem F3.cellsI {w : World} {h : MH} {m : Mod} {bi oi : Nat} {i f t : Int} {x : ItemM} {A : Option Addr} {c : Nat} {W : World} (s : F3 w #[.slice h.s m.sites.length h.sc, .slice h.f m.feeds.length h.fc, .slice h.r m.racks.length h.rc, .slice h.m m.machs.length h.mc, .slice h.l m.links.length h.lc, .slice (some ⟨bi, oi, none⟩) m.items.length h.ic, .int .i64 m.dark, .int .i64 m.slots, .int .i64 m.reserve, .int .i64 m.failures, .slice h.u m.rules.length h.uc] #[.int .i64 i, .int .i64 f, .int .i64 t] #[.string x.name, .int .i64 x.kind, .int .i64 x.count, .int .i64 x.load, .int .i64 x.size, .int .i64 x.share, .slice A x.on.length c] W) :
    (W.cell? ⟨w.heap.size, 0, none⟩ = some (.slice h.s m.sites.length h.sc) ∧ W.cell? ⟨w.heap.size, 1, none⟩ = some (.slice h.f m.feeds.length h.fc) ∧ W.cell? ⟨w.heap.size, 2, none⟩ = some (.slice h.r m.racks.length h.rc) ∧ W.cell? ⟨w.heap.size, 3, none⟩ = some (.slice h.m m.machs.length h.mc) ∧ W.cell? ⟨w.heap.size, 4, none⟩ = some (.slice h.l m.links.length h.lc) ∧ W.cell? ⟨w.heap.size, 5, none⟩ = some (.slice (some ⟨bi, oi, none⟩) m.items.length h.ic) ∧ W.cell? ⟨w.heap.size, 6, none⟩ = some (.int .i64 m.dark) ∧ W.cell? ⟨w.heap.size, 7, none⟩ = some (.int .i64 m.slots) ∧ W.cell? ⟨w.heap.size, 8, none⟩ = some (.int .i64 m.reserve) ∧ W.cell? ⟨w.heap.size, 9, none⟩ = some (.int .i64 m.failures) ∧ W.cell? ⟨w.heap.size, 10, none⟩ = some (.slice h.u m.rules.length h.uc)) ∧ (W.cell? ⟨w.heap.size + 1, 0, none⟩ = some (.int .i64 i) ∧ W.cell? ⟨w.heap.size + 1, 1, none⟩ = some (.int .i64 f) ∧ W.cell? ⟨w.heap.size + 1, 2, none⟩ = some (.int .i64 t)) ∧
      (W.cell? ⟨w.heap.size + 1 + 1, 0, none⟩ = some (.string x.name) ∧ W.cell? ⟨w.heap.size + 1 + 1, 1, none⟩ = some (.int .i64 x.kind) ∧ W.cell? ⟨w.heap.size + 1 + 1, 2, none⟩ = some (.int .i64 x.count) ∧ W.cell? ⟨w.heap.size + 1 + 1, 3, none⟩ = some (.int .i64 x.load) ∧ W.cell? ⟨w.heap.size + 1 + 1, 4, none⟩ = some (.int .i64 x.size) ∧ W.cell? ⟨w.heap.size + 1 + 1, 5, none⟩ = some (.int .i64 x.share) ∧ W.cell? ⟨w.heap.size + 1 + 1, 6, none⟩ = some (.slice A x.on.length c)) :=
  ⟨⟨s.m.cell 0, s.m.cell 1, s.m.cell 2, s.m.cell 3, s.m.cell 4, s.m.cell 5, s.m.cell 6, s.m.cell 7, s.m.cell 8, s.m.cell 9, s.m.cell 10⟩, ⟨s.v.cell 0, s.v.cell 1, s.v.cell 2⟩, ⟨s.x.cell 0, s.x.cell 1, s.x.cell 2, s.x.cell 3, s.x.cell 4, s.x.cell 5, s.x.cell 6⟩⟩
set_option maxRecDepth 100000 in
set_option maxHeartbeats 4000000 in
theorem crossesR (h : MH) (m : Mod) (a : Nat) (f t : Int) (w : World) (d : MD w w.heap.size h m) (hv : validM m = true) (ha : a < m.items.length) :
    Calls Tryz.prog 112 #[.agg #[.slice h.s m.sites.length h.sc, .slice h.f m.feeds.length h.fc, .slice h.r m.racks.length h.rc, .slice h.m m.machs.length h.mc, .slice h.l m.links.length h.lc, .slice h.i m.items.length h.ic, .int .i64 m.dark, .int .i64 m.slots, .int .i64 m.reserve, .int .i64 m.failures, .slice h.u m.rules.length h.uc], .agg #[.int .i64 ((a : Int) + 1), .int .i64 f, .int .i64 t]] w (AnsB w (.bool (crossB m m.items[a] f t))) := by
  obtain ⟨s1, _⟩ := valid_sizes hv
  have hil := d.il
  obtain ⟨x, hx⟩ : ∃ x, x = m.items[a] := ⟨_, rfl⟩
  have hxm : x ∈ m.items := by rw [hx]; exact List.getElem_mem ha
  obtain ⟨hk, hon, _⟩ := valid_itm hv hxm
  obtain ⟨bi, oi, A, c, hA, hb, x0, x1, x2, x3, x4, x5, x6, _, hcl, hcm, gI⟩ := d.dI.item ha
  rw [← hx] at x0 x1 x2 x3 x4 x5 x6 hcl gI ⊢
  have hxl : x.on.length ≤ 9223372036854775807 := by omega
  have K : ItC w h m x A := ⟨d, gI, hon, hxl⟩
  have hs := F3.start w #[.slice h.s m.sites.length h.sc, .slice h.f m.feeds.length h.fc, .slice h.r m.racks.length h.rc, .slice h.m m.machs.length h.mc, .slice h.l m.links.length h.lc, .slice h.i m.items.length h.ic, .int .i64 m.dark, .int .i64 m.slots, .int .i64 m.reserve, .int .i64 m.failures, .slice h.u m.rules.length h.uc] #[.int .i64 ((a : Int) + 1), .int .i64 f, .int .i64 t] #[.string x.name, .int .i64 x.kind, .int .i64 x.count, .int .i64 x.load, .int .i64 x.size, .int .i64 x.share, .slice A x.on.length c]
  have HS := hide hs
  have haI : (a : Int) < (m.items.length : Int) := by omega
  have hw1 : IntKind.i64.wrap ((a : Int) + 1 - 1) = (a : Int) := by rw [IntWalk.i64_in _ (by omega)]; omega
  have HV := hide (show crossB m x f t = (decide (0 < x.size) && (domI m 4 (srcI x f) != domI m 4 t)) by simp [crossB, bne]; rfl)
  have HP := hide (fun (k : Int) W (hW : Below w.heap.size w W) => domain_ref h m 4 k W (d.grow hW))
  have HSR := hide (fun W (hW : Below w.heap.size w W) => sourceR x A c f W (gI.grow hW) hon hxl)
  have hU : undef = Value.tuple #[] := rfl
  rw [hA] at HS HP
  have HA := hide hA
  by_cases hz : 0 < x.size
  · rw [decide_eq_true hz, Bool.true_and] at HV
    obtain ⟨s2, hs2⟩ : ∃ s, s = srcI x f := ⟨_, rfl⟩
    rw [← hs2] at HV HSR
    have HP1 := hide (HP.out s2)
    have HP2 := hide (HP.out t)
    obtain ⟨p1, hp1⟩ : ∃ s, s = domI m 4 s2 := ⟨_, rfl⟩
    obtain ⟨p2, hp2⟩ : ∃ s, s = domI m 4 t := ⟨_, rfl⟩
    rw [← hp1] at HV HP1
    rw [← hp2] at HV HP2
    clear hs hs2 hp1 hp2 HP hk hon K gI hv d hcl hcm hx hxm hxl
    rw [hA]
    clear hA
    go_enter Tryz.func112, Tryz.ntmps112
    go_wp2_with fail
    go_region_held3 (fun W => ((W.cell? ⟨w.heap.size, 0, none⟩ = some (.slice h.s m.sites.length h.sc) ∧ W.cell? ⟨w.heap.size, 1, none⟩ = some (.slice h.f m.feeds.length h.fc) ∧ W.cell? ⟨w.heap.size, 2, none⟩ = some (.slice h.r m.racks.length h.rc) ∧ W.cell? ⟨w.heap.size, 3, none⟩ = some (.slice h.m m.machs.length h.mc) ∧ W.cell? ⟨w.heap.size, 4, none⟩ = some (.slice h.l m.links.length h.lc) ∧ W.cell? ⟨w.heap.size, 5, none⟩ = some (.slice (some ⟨bi, oi, none⟩) m.items.length h.ic) ∧ W.cell? ⟨w.heap.size, 6, none⟩ = some (.int .i64 m.dark) ∧ W.cell? ⟨w.heap.size, 7, none⟩ = some (.int .i64 m.slots) ∧ W.cell? ⟨w.heap.size, 8, none⟩ = some (.int .i64 m.reserve) ∧ W.cell? ⟨w.heap.size, 9, none⟩ = some (.int .i64 m.failures) ∧ W.cell? ⟨w.heap.size, 10, none⟩ = some (.slice h.u m.rules.length h.uc)) ∧ (W.cell? ⟨w.heap.size + 1, 0, none⟩ = some (.int .i64 ((a : Int) + 1)) ∧ W.cell? ⟨w.heap.size + 1, 1, none⟩ = some (.int .i64 f) ∧ W.cell? ⟨w.heap.size + 1, 2, none⟩ = some (.int .i64 t)) ∧ (W.cell? ⟨w.heap.size + 1 + 1, 0, none⟩ = some (.string x.name) ∧ W.cell? ⟨w.heap.size + 1 + 1, 1, none⟩ = some (.int .i64 x.kind) ∧ W.cell? ⟨w.heap.size + 1 + 1, 2, none⟩ = some (.int .i64 x.count) ∧ W.cell? ⟨w.heap.size + 1 + 1, 3, none⟩ = some (.int .i64 x.load) ∧ W.cell? ⟨w.heap.size + 1 + 1, 4, none⟩ = some (.int .i64 x.size) ∧ W.cell? ⟨w.heap.size + 1 + 1, 5, none⟩ = some (.int .i64 x.share) ∧ W.cell? ⟨w.heap.size + 1 + 1, 6, none⟩ = some (.slice A x.on.length c))) ∧ F3 w #[.slice h.s m.sites.length h.sc, .slice h.f m.feeds.length h.fc, .slice h.r m.racks.length h.rc, .slice h.m m.machs.length h.mc, .slice h.l m.links.length h.lc, .slice (some ⟨bi, oi, none⟩) m.items.length h.ic, .int .i64 m.dark, .int .i64 m.slots, .int .i64 m.reserve, .int .i64 m.failures, .slice h.u m.rules.length h.uc] #[.int .i64 ((a : Int) + 1), .int .i64 f, .int .i64 t] #[.string x.name, .int .i64 x.kind, .int .i64 x.count, .int .i64 x.load, .int .i64 x.size, .int .i64 x.share, .slice A x.on.length c] W)
      ((with_reducible (first | (go_keep; done) | exact ⟨F3.cellsI HS.out.drew, HS.out.drew⟩ | exact ⟨F3.cellsI c3, c3⟩ | exact ⟨F3.cellsI c2, c2⟩ | exact ⟨F3.cellsI c1, c1⟩)))
      ((first
        | (go_at_call 170; have hH := HS.out.drew; (with_reducible refine (HSR.out _ (F3.b hH)).mono ?_); rintro e w2 ⟨rfl, hb⟩; have c1 := F3.grow hH hb; clear hb hH)
        | (go_at_call 169; (with_reducible refine (HP1.out _ (F3.b c1)).mono ?_); rintro e w3 ⟨rfl, hb⟩; have c2 := F3.grow c1 hb; clear hb)
        | (go_at_call 169; (with_reducible refine (HP2.out _ (F3.b c2)).mono ?_); rintro e w4 ⟨rfl, hb⟩; have c3 := F3.grow c2 hb; clear hb)))
    go_wp2_with fail
    go_ret
    exact ⟨ret_congr (by rw [HV.out]; rfl), c3.b⟩
  · rw [decide_eq_false hz, Bool.false_and] at HV
    have hd : decide ((0 : Int) < x.size) = false := decide_eq_false hz
    clear hs HP hk hon K gI hv d hcl hcm hx hxm hxl hz
    rw [hA]
    clear hA
    go_enter Tryz.func112, Tryz.ntmps112
    go_wp2_with fail
    go_quiet (fail)
    go_wp2_with fail
    go_ret
    exact ⟨ret_congr (by rw [HV.out]; rfl), by first | exact HS.out.b | exact below_drawn HS.out.b _⟩
set_option maxRecDepth 100000 in
set_option maxHeartbeats 4000000 in
theorem rlinkR (h : MH) (m : Mod) (a : Nat) (f t : Int) (w : World) (d : MD w w.heap.size h m) (hv : validM m = true) (ha : a < m.items.length) :
    Calls Tryz.prog 113 #[.agg #[.slice h.s m.sites.length h.sc, .slice h.f m.feeds.length h.fc, .slice h.r m.racks.length h.rc, .slice h.m m.machs.length h.mc, .slice h.l m.links.length h.lc, .slice h.i m.items.length h.ic, .int .i64 m.dark, .int .i64 m.slots, .int .i64 m.reserve, .int .i64 m.failures, .slice h.u m.rules.length h.uc], .agg #[.int .i64 ((a : Int) + 1), .int .i64 f, .int .i64 t]] w (AnsB w (.int .i64 (linkY m m.items[a] f t))) := by
  obtain ⟨s1, _⟩ := valid_sizes hv
  have hil := d.il
  obtain ⟨x, hx⟩ : ∃ x, x = m.items[a] := ⟨_, rfl⟩
  have hxm : x ∈ m.items := by rw [hx]; exact List.getElem_mem ha
  obtain ⟨hk, hon, _⟩ := valid_itm hv hxm
  obtain ⟨bi, oi, A, c, hA, hb, x0, x1, x2, x3, x4, x5, x6, _, hcl, hcm, gI⟩ := d.dI.item ha
  rw [← hx] at x0 x1 x2 x3 x4 x5 x6 hcl gI ⊢
  have hxl : x.on.length ≤ 9223372036854775807 := by omega
  have K : ItC w h m x A := ⟨d, gI, hon, hxl⟩
  have hs := F3.start w #[.slice h.s m.sites.length h.sc, .slice h.f m.feeds.length h.fc, .slice h.r m.racks.length h.rc, .slice h.m m.machs.length h.mc, .slice h.l m.links.length h.lc, .slice h.i m.items.length h.ic, .int .i64 m.dark, .int .i64 m.slots, .int .i64 m.reserve, .int .i64 m.failures, .slice h.u m.rules.length h.uc] #[.int .i64 ((a : Int) + 1), .int .i64 f, .int .i64 t] #[.string x.name, .int .i64 x.kind, .int .i64 x.count, .int .i64 x.load, .int .i64 x.size, .int .i64 x.share, .slice A x.on.length c]
  have HS := hide hs
  have haI : (a : Int) < (m.items.length : Int) := by omega
  have hw1 : IntKind.i64.wrap ((a : Int) + 1 - 1) = (a : Int) := by rw [IntWalk.i64_in _ (by omega)]; omega
  have HV := hide (show linkY m x f t = linkI m (domI m 4 (srcI x f)) (domI m 4 t) from rfl)
  have HP := hide (fun (k : Int) W (hW : Below w.heap.size w W) => domain_ref h m 4 k W (d.grow hW))
  have HL := hide (fun (p q : Int) W (hW : Below w.heap.size w W) => linkR_ref h m p q W (d.grow hW))
  have HSR := hide (fun W (hW : Below w.heap.size w W) => sourceR x A c f W (gI.grow hW) hon hxl)
  rw [hA] at HS HP HL
  obtain ⟨s2, hs2⟩ : ∃ s, s = srcI x f := ⟨_, rfl⟩
  rw [← hs2] at HV HSR
  have HP1 := hide (HP.out s2)
  have HP2 := hide (HP.out t)
  obtain ⟨p1, hp1⟩ : ∃ s, s = domI m 4 s2 := ⟨_, rfl⟩
  obtain ⟨p2, hp2⟩ : ∃ s, s = domI m 4 t := ⟨_, rfl⟩
  rw [← hp1] at HV HP1
  rw [← hp2] at HV HP2
  have HL2 := hide (HL.out p1 p2)
  clear hs hs2 hp1 hp2 HP HL hk hon K gI hv d hcl hcm hx hxm hxl
  rw [hA]
  clear hA
  go_enter Tryz.func113, Tryz.ntmps113
  go_wp2_with fail
  go_region_held3 (fun W => ((W.cell? ⟨w.heap.size, 0, none⟩ = some (.slice h.s m.sites.length h.sc) ∧ W.cell? ⟨w.heap.size, 1, none⟩ = some (.slice h.f m.feeds.length h.fc) ∧ W.cell? ⟨w.heap.size, 2, none⟩ = some (.slice h.r m.racks.length h.rc) ∧ W.cell? ⟨w.heap.size, 3, none⟩ = some (.slice h.m m.machs.length h.mc) ∧ W.cell? ⟨w.heap.size, 4, none⟩ = some (.slice h.l m.links.length h.lc) ∧ W.cell? ⟨w.heap.size, 5, none⟩ = some (.slice (some ⟨bi, oi, none⟩) m.items.length h.ic) ∧ W.cell? ⟨w.heap.size, 6, none⟩ = some (.int .i64 m.dark) ∧ W.cell? ⟨w.heap.size, 7, none⟩ = some (.int .i64 m.slots) ∧ W.cell? ⟨w.heap.size, 8, none⟩ = some (.int .i64 m.reserve) ∧ W.cell? ⟨w.heap.size, 9, none⟩ = some (.int .i64 m.failures) ∧ W.cell? ⟨w.heap.size, 10, none⟩ = some (.slice h.u m.rules.length h.uc)) ∧ (W.cell? ⟨w.heap.size + 1, 0, none⟩ = some (.int .i64 ((a : Int) + 1)) ∧ W.cell? ⟨w.heap.size + 1, 1, none⟩ = some (.int .i64 f) ∧ W.cell? ⟨w.heap.size + 1, 2, none⟩ = some (.int .i64 t)) ∧ (W.cell? ⟨w.heap.size + 1 + 1, 0, none⟩ = some (.string x.name) ∧ W.cell? ⟨w.heap.size + 1 + 1, 1, none⟩ = some (.int .i64 x.kind) ∧ W.cell? ⟨w.heap.size + 1 + 1, 2, none⟩ = some (.int .i64 x.count) ∧ W.cell? ⟨w.heap.size + 1 + 1, 3, none⟩ = some (.int .i64 x.load) ∧ W.cell? ⟨w.heap.size + 1 + 1, 4, none⟩ = some (.int .i64 x.size) ∧ W.cell? ⟨w.heap.size + 1 + 1, 5, none⟩ = some (.int .i64 x.share) ∧ W.cell? ⟨w.heap.size + 1 + 1, 6, none⟩ = some (.slice A x.on.length c))) ∧ F3 w #[.slice h.s m.sites.length h.sc, .slice h.f m.feeds.length h.fc, .slice h.r m.racks.length h.rc, .slice h.m m.machs.length h.mc, .slice h.l m.links.length h.lc, .slice (some ⟨bi, oi, none⟩) m.items.length h.ic, .int .i64 m.dark, .int .i64 m.slots, .int .i64 m.reserve, .int .i64 m.failures, .slice h.u m.rules.length h.uc] #[.int .i64 ((a : Int) + 1), .int .i64 f, .int .i64 t] #[.string x.name, .int .i64 x.kind, .int .i64 x.count, .int .i64 x.load, .int .i64 x.size, .int .i64 x.share, .slice A x.on.length c] W)
    ((with_reducible (first | (go_keep; done) | exact ⟨F3.cellsI HS.out.drew, HS.out.drew⟩ | exact ⟨F3.cellsI c4, c4⟩ | exact ⟨F3.cellsI c3, c3⟩ | exact ⟨F3.cellsI c2, c2⟩ | exact ⟨F3.cellsI c1, c1⟩)))
    ((first
      | (go_at_call 170; have hH := HS.out.drew; (with_reducible refine (HSR.out _ (F3.b hH)).mono ?_); rintro e w2 ⟨rfl, hb⟩; have c1 := F3.grow hH hb; clear hb hH)
      | (go_at_call 169; (with_reducible refine (HP1.out _ (F3.b c1)).mono ?_); rintro e w3 ⟨rfl, hb⟩; have c2 := F3.grow c1 hb; clear hb)
      | (go_at_call 169; (with_reducible refine (HP2.out _ (F3.b c2)).mono ?_); rintro e w4 ⟨rfl, hb⟩; have c3 := F3.grow c2 hb; clear hb)
      | (go_at_call 171; (with_reducible refine (HL2.out _ (F3.b c3)).mono ?_); rintro e w5 ⟨rfl, hb⟩; have c4 := F3.grow c3 hb; clear hb)))
  go_wp2_with fail
  go_ret
  exact ⟨ret_congr (by rw [HV.out]; rfl), c4.b⟩
/-- the boxes of free -/
structure G2 (w : World) (M X : Array Value) (W : World) : Prop where
  m : Blk W w.heap.size 29 M
  x : Blk W (w.heap.size + 1) 91 X
  b : Below w.heap.size w W
theorem G2.start (w : World) (M X : Array Value) : G2 w M X ((w.alloc (.cells M 29)).alloc (.cells X 91)) :=
  ⟨(Blk.new w _ M).alloc _, by simpa using Blk.new (w.alloc (.cells M 29)) 91 X, ((Below.refl _ _).alloc (Nat.le_refl _) _).alloc (by simp) _⟩
theorem G2.drew {w : World} {M X : Array Value} {W : World} (s : G2 w M X W) : G2 w M X W.drew := ⟨s.m, s.x, s.b.drew⟩
theorem G2.grow {w : World} {M X : Array Value} {W W2 : World} (s : G2 w M X W) (hb : Below W.heap.size W W2) : G2 w M X W2 := ⟨s.m.below hb s.m.lt, s.x.below hb s.x.lt, s.b.trans (hb.mono s.b.size)⟩
theorem G2.cells {w : World} {h : MH} {m : Mod} {x : ItemM} {A : Option Addr} {c : Nat} {W : World} (s : G2 w #[.slice h.s m.sites.length h.sc, .slice h.f m.feeds.length h.fc, .slice h.r m.racks.length h.rc, .slice h.m m.machs.length h.mc, .slice h.l m.links.length h.lc, .slice h.i m.items.length h.ic, .int .i64 m.dark, .int .i64 m.slots, .int .i64 m.reserve, .int .i64 m.failures, .slice h.u m.rules.length h.uc] #[.string x.name, .int .i64 x.kind, .int .i64 x.count, .int .i64 x.load, .int .i64 x.size, .int .i64 x.share, .slice A x.on.length c] W) : (W.cell? ⟨w.heap.size, 0, none⟩ = some (.slice h.s m.sites.length h.sc) ∧ W.cell? ⟨w.heap.size, 1, none⟩ = some (.slice h.f m.feeds.length h.fc) ∧ W.cell? ⟨w.heap.size, 2, none⟩ = some (.slice h.r m.racks.length h.rc) ∧ W.cell? ⟨w.heap.size, 3, none⟩ = some (.slice h.m m.machs.length h.mc) ∧ W.cell? ⟨w.heap.size, 4, none⟩ = some (.slice h.l m.links.length h.lc) ∧ W.cell? ⟨w.heap.size, 5, none⟩ = some (.slice h.i m.items.length h.ic) ∧ W.cell? ⟨w.heap.size, 6, none⟩ = some (.int .i64 m.dark) ∧ W.cell? ⟨w.heap.size, 7, none⟩ = some (.int .i64 m.slots) ∧ W.cell? ⟨w.heap.size, 8, none⟩ = some (.int .i64 m.reserve) ∧ W.cell? ⟨w.heap.size, 9, none⟩ = some (.int .i64 m.failures) ∧ W.cell? ⟨w.heap.size, 10, none⟩ = some (.slice h.u m.rules.length h.uc)) ∧ W.cell? ⟨w.heap.size + 1, 6, none⟩ = some (.slice A x.on.length c) := ⟨MB.cells s.m, s.x.cell 6⟩
set_option maxRecDepth 100000 in
set_option maxHeartbeats 4000000 in
theorem freeR (h : MH) (m : Mod) (x : ItemM) (A : Option Addr) (c : Nat) (t : Int) (w : World) (K : ItC w h m x A) :
    Calls Tryz.prog 111 #[.agg #[.slice h.s m.sites.length h.sc, .slice h.f m.feeds.length h.fc, .slice h.r m.racks.length h.rc, .slice h.m m.machs.length h.mc, .slice h.l m.links.length h.lc, .slice h.i m.items.length h.ic, .int .i64 m.dark, .int .i64 m.slots, .int .i64 m.reserve, .int .i64 m.failures, .slice h.u m.rules.length h.uc], .agg #[.string x.name, .int .i64 x.kind, .int .i64 x.count, .int .i64 x.load, .int .i64 x.size, .int .i64 x.share, .slice A x.on.length c], .int .i64 t] w (AnsB w (.bool (freeB m x t))) := by
  have hs := G2.start w #[.slice h.s m.sites.length h.sc, .slice h.f m.feeds.length h.fc, .slice h.r m.racks.length h.rc, .slice h.m m.machs.length h.mc, .slice h.l m.links.length h.lc, .slice h.i m.items.length h.ic, .int .i64 m.dark, .int .i64 m.slots, .int .i64 m.reserve, .int .i64 m.failures, .slice h.u m.rules.length h.uc] #[.string x.name, .int .i64 x.kind, .int .i64 x.count, .int .i64 x.load, .int .i64 x.size, .int .i64 x.share, .slice A x.on.length c]
  have HS := hide hs
  have HV := hide (show freeB m x t = (exI t m.machs.length && (!onB x t && (domI m 4 t != m.dark))) by simp [freeB, bne]; rfl)
  have HE := hide (fun W => exists_ref t m.machs.length W)
  have HI := hide (fun W (hW : Below w.heap.size w W) => hasInt_ref A c x.on t W K.l (K.i.grow hW))
  have HP := hide (fun W (hW : Below w.heap.size w W) => domain_ref h m 4 t W (K.d.grow hW))
  have HO := hide (show onB x t = decide (t ∈ x.on) from rfl)
  have hU : undef = Value.tuple #[] := rfl
  obtain ⟨p, hp⟩ : ∃ s, s = domI m 4 t := ⟨_, rfl⟩
  rw [← hp] at HV HP
  rw [← HO.out] at HI
  obtain ⟨o, ho⟩ : ∃ o, o = onB x t := ⟨_, rfl⟩
  rw [← ho] at HV HI
  obtain ⟨q, hq⟩ : ∃ o, o = exI t m.machs.length := ⟨_, rfl⟩
  rw [← hq] at HV HE
  clear K hp ho hq HO
  cases q
  · rw [Bool.false_and] at HV
    obtain ⟨⟨a0, a1, a2, a3, a4, a5, a6, a7, a8, a9, a10⟩, b6⟩ := G2.cells hs
    have lt1 := hs.m.lt
    have lt2 := hs.x.lt
    clear hs a0 a1 a2 a4 a5 a7 a8 a9 a10
    go_enter Tryz.func111, Tryz.ntmps111
    go_wp2_with fail
    first | (go_region_with ((go_at_call 108; refine (HE.out _).mono ?_; rintro e w2 ⟨rfl, rfl⟩))) | fail
    all_goals
      go_wp2_with fail
      go_ret
      exact ⟨ret_congr (by rw [HV.out]; rfl), HS.out.b.drew⟩
  · cases o
    · clear hs
      go_enter Tryz.func111, Tryz.ntmps111
      go_wp2_with fail
      go_region_held3 (fun W => ((W.cell? ⟨w.heap.size, 0, none⟩ = some (.slice h.s m.sites.length h.sc) ∧ W.cell? ⟨w.heap.size, 1, none⟩ = some (.slice h.f m.feeds.length h.fc) ∧ W.cell? ⟨w.heap.size, 2, none⟩ = some (.slice h.r m.racks.length h.rc) ∧ W.cell? ⟨w.heap.size, 3, none⟩ = some (.slice h.m m.machs.length h.mc) ∧ W.cell? ⟨w.heap.size, 4, none⟩ = some (.slice h.l m.links.length h.lc) ∧ W.cell? ⟨w.heap.size, 5, none⟩ = some (.slice h.i m.items.length h.ic) ∧ W.cell? ⟨w.heap.size, 6, none⟩ = some (.int .i64 m.dark) ∧ W.cell? ⟨w.heap.size, 7, none⟩ = some (.int .i64 m.slots) ∧ W.cell? ⟨w.heap.size, 8, none⟩ = some (.int .i64 m.reserve) ∧ W.cell? ⟨w.heap.size, 9, none⟩ = some (.int .i64 m.failures) ∧ W.cell? ⟨w.heap.size, 10, none⟩ = some (.slice h.u m.rules.length h.uc)) ∧ W.cell? ⟨w.heap.size + 1, 6, none⟩ = some (.slice A x.on.length c)) ∧ G2 w #[.slice h.s m.sites.length h.sc, .slice h.f m.feeds.length h.fc, .slice h.r m.racks.length h.rc, .slice h.m m.machs.length h.mc, .slice h.l m.links.length h.lc, .slice h.i m.items.length h.ic, .int .i64 m.dark, .int .i64 m.slots, .int .i64 m.reserve, .int .i64 m.failures, .slice h.u m.rules.length h.uc] #[.string x.name, .int .i64 x.kind, .int .i64 x.count, .int .i64 x.load, .int .i64 x.size, .int .i64 x.share, .slice A x.on.length c] W)
        ((with_reducible (first | (go_keep; done) | exact ⟨G2.cells HS.out.drew, HS.out.drew⟩ | exact ⟨G2.cells c1, c1⟩)))
        ((first
          | (go_at_call 108; (with_reducible refine (HE.out _).mono ?_); rintro e w2 ⟨rfl, rfl⟩)
          | (go_at_call 110; (with_reducible refine (HI.out _ (G2.b HS.out.drew)).mono ?_); rintro e w3 ⟨rfl, rfl⟩)
          | (go_at_call 169; (with_reducible refine (HP.out _ (G2.b HS.out.drew)).mono ?_); rintro e w4 ⟨rfl, hb⟩; have c1 := G2.grow HS.out.drew hb; clear hb)))
      go_wp2_with fail
      go_ret
      exact ⟨ret_congr (by rw [HV.out]; rfl), c1.b⟩
    · obtain ⟨⟨a0, a1, a2, a3, a4, a5, a6, a7, a8, a9, a10⟩, b6⟩ := G2.cells hs
      have lt1 := hs.m.lt
      have lt2 := hs.x.lt
      clear hs a0 a1 a2 a4 a5 a7 a8 a9 a10
      go_enter Tryz.func111, Tryz.ntmps111
      go_wp2_with fail
      first | (go_region_with ((first
        | (go_at_call 108; refine (HE.out _).mono ?_; rintro e w2 ⟨rfl, rfl⟩)
        | (go_at_call 110; refine (HI.out _ HS.out.b.drew).mono ?_; rintro e w3 ⟨rfl, rfl⟩)))) | fail
      all_goals
        go_wp2_with fail
        go_ret
        exact ⟨ret_congr (by rw [HV.out]; rfl), HS.out.b.drew⟩
end Go.Proofs.YtpggamapmgpjcaaGreatDoor
