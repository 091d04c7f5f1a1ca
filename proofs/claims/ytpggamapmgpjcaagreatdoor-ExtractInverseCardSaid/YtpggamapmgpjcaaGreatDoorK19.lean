/- The walks of the shapes' closures and of moves.fits. Conditions: lengths that fit memory; a valid model. -/
import Derived.Test.YtpggamapmgpjcaaGreatDoorK18

namespace Go.Proofs.YtpggamapmgpjcaaGreatDoor
open Go Go.RowKit Go.Proofs

set_option maxRecDepth 100000 in
set_option maxHeartbeats 2000000 in
theorem replace_prog (h : MH) (m : Mod) (x : ItemM) (A : Option Addr) (c bm bi bo : Nat) (f t : Int) (w : World) (s : F4 h m x A c bm bi bo w) :
    Calls Tryz.prog 148 #[.int .i64 f, .int .i64 t, .func (.func 93) #[] #[.pointer (some ⟨bi, 0, none⟩)], .func (.func 94) #[] #[.pointer (some ⟨bm, 0, none⟩), .pointer (some ⟨bo, 0, none⟩)]] w (AnsB w (.bool (onB x f && freeB m x t))) := by
  have HO := hide (on_prog x A c bi f w s.xi s.k.i s.k.l)
  have HF := hide (free_prog h m x A c bm bi bo t w s)
  clear s
  cases ho : onB x f
  · rw [ho] at HO
    go_enter Tryz.func148, Tryz.ntmps148
    go_wp2_with (go_at_call 93; refine HO.out.mono ?_; rintro e w1 ⟨rfl, rfl⟩)
    go_ret
    exact ⟨ret_congr (by simp), Below.refl _ _⟩
  · rw [ho] at HO
    obtain ⟨q, hq⟩ : ∃ q, q = freeB m x t := ⟨_, rfl⟩
    rw [← hq] at HF ⊢
    clear hq ho
    go_enter Tryz.func148, Tryz.ntmps148
    go_wp2_with (first
      | (go_at_call 93; refine HO.out.mono ?_; rintro e w1 ⟨rfl, rfl⟩)
      | (go_at_call 94; refine HF.out.mono ?_; rintro e w2 ⟨rfl, hb2⟩))
    go_ret
    exact ⟨ret_congr (by simp), hb2⟩
set_option maxRecDepth 100000 in
set_option maxHeartbeats 2000000 in
theorem pool_prog (h : MH) (m : Mod) (x : ItemM) (A : Option Addr) (c bm bi bo : Nat) (f t : Int) (w : World) (s : F4 h m x A c bm bi bo w) :
    Calls Tryz.prog 149 #[.int .i64 f, .int .i64 t, .func (.func 93) #[] #[.pointer (some ⟨bi, 0, none⟩)], .func (.func 94) #[] #[.pointer (some ⟨bm, 0, none⟩), .pointer (some ⟨bo, 0, none⟩)]] w (AnsB w (.bool ((decide (f = 0) && freeB m x t) || (onB x f && decide (t = 0))))) := by
  have HO := hide (fun W (hW : Below w.heap.size w W) => on_prog x A c bi f W (s.grow hW).xi (s.grow hW).k.i s.k.l)
  have HF := hide (free_prog h m x A c bm bi bo t w s)
  clear s
  obtain ⟨q, hq⟩ : ∃ q, q = freeB m x t := ⟨_, rfl⟩
  obtain ⟨o, ho⟩ : ∃ o, o = onB x f := ⟨_, rfl⟩
  rw [← hq] at HF ⊢
  rw [← ho] at HO ⊢
  clear hq ho
  have HV := hide (show ((decide (f = 0) && q) || (o && decide (t = 0))) = (((f == 0) && q) || (o && (t == 0))) from rfl)
  rw [HV.out]
  clear HV
  cases g1 : (f == 0)
  · cases o <;> cases g2 : (t == 0)
    all_goals
      go_enter Tryz.func149, Tryz.ntmps149
      go_wp2_with (go_at_call 93; refine (HO.out w (Below.refl _ _)).mono ?_; rintro e w1 ⟨rfl, rfl⟩)
      go_ret
      exact ⟨ret_congr (by simp), Below.refl _ _⟩
  · cases q
    · cases o <;> cases g2 : (t == 0)
      all_goals
        go_enter Tryz.func149, Tryz.ntmps149
        go_wp2_with (first
          | (go_at_call 94; refine HF.out.mono ?_; rintro e w2 ⟨rfl, hb2⟩; have HO2 := hide (HO.out w2 hb2))
          | (go_at_call 93; refine HO2.out.mono ?_; rintro e w1 ⟨rfl, rfl⟩))
        go_ret
        exact ⟨ret_congr (by simp), hb2⟩
    · go_enter Tryz.func149, Tryz.ntmps149
      go_wp2_with (go_at_call 94; refine HF.out.mono ?_; rintro e w2 ⟨rfl, hb2⟩)
      go_ret
      exact ⟨ret_congr (by simp), hb2⟩
theorem shape_prog (h : MH) (m : Mod) (x : ItemM) (A : Option Addr) (c bm bi bo : Nat) (f t : Int) (w : World) (s : F4 h m x A c bm bi bo w) :
    Calls Tryz.prog (shF x.kind) #[.int .i64 f, .int .i64 t, .func (.func 93) #[] #[.pointer (some ⟨bi, 0, none⟩)], .func (.func 94) #[] #[.pointer (some ⟨bm, 0, none⟩), .pointer (some ⟨bo, 0, none⟩)]] w (AnsB w (.bool (shapeB m x f t))) := by
  by_cases hk : x.kind = 1
  · rw [shF, shapeB, if_pos hk, if_pos hk]
    exact pool_prog h m x A c bm bi bo f t w s
  · rw [shF, shapeB, if_neg hk, if_neg hk]
    exact replace_prog h m x A c bm bi bo f t w s
set_option maxRecDepth 100000 in
theorem shF_enters (k : Int) : ∀ args w, (callFunc (shF k) args).run Tryz.prog w = .ok (.enter (shF k) args) w := by
  unfold shF
  split
  · exact fun _ _ => by kernel_rfl
  · exact fun _ _ => by kernel_rfl
/-- the four boxes of fits -/
structure F5 (w : World) (M V X : Array Value) (W : World) : Prop where
  s : F3 w M V X W
  o : Blk W (w.heap.size + 1 + 1 + 1) 125 #[.func (.func 93) #[] #[.pointer (some ⟨w.heap.size + 1 + 1, 0, none⟩)]]
theorem F5.drew {w : World} {M V X : Array Value} {W : World} (s : F5 w M V X W) : F5 w M V X W.drew := ⟨s.s.drew, s.o⟩
theorem F5.grow {w : World} {M V X : Array Value} {W W2 : World} (s : F5 w M V X W) (hb : Below W.heap.size W W2) : F5 w M V X W2 := ⟨s.s.grow hb, s.o.below hb s.o.lt⟩
theorem F5.b {w : World} {M V X : Array Value} {W : World} (s : F5 w M V X W) : Below w.heap.size w W := s.s.b
theorem F5.cells {w : World} {h : MH} {m : Mod} {bi oi : Nat} {i f t : Int} {x : ItemM} {A : Option Addr} {c : Nat} {W : World} (s : F5 w #[.slice h.s m.sites.length h.sc, .slice h.f m.feeds.length h.fc, .slice h.r m.racks.length h.rc, .slice h.m m.machs.length h.mc, .slice h.l m.links.length h.lc, .slice (some ⟨bi, oi, none⟩) m.items.length h.ic, .int .i64 m.dark, .int .i64 m.slots, .int .i64 m.reserve, .int .i64 m.failures, .slice h.u m.rules.length h.uc] #[.int .i64 i, .int .i64 f, .int .i64 t] #[.string x.name, .int .i64 x.kind, .int .i64 x.count, .int .i64 x.load, .int .i64 x.size, .int .i64 x.share, .slice A x.on.length c] W) :
    ((W.cell? ⟨w.heap.size, 0, none⟩ = some (.slice h.s m.sites.length h.sc) ∧ W.cell? ⟨w.heap.size, 1, none⟩ = some (.slice h.f m.feeds.length h.fc) ∧ W.cell? ⟨w.heap.size, 2, none⟩ = some (.slice h.r m.racks.length h.rc) ∧ W.cell? ⟨w.heap.size, 3, none⟩ = some (.slice h.m m.machs.length h.mc) ∧ W.cell? ⟨w.heap.size, 4, none⟩ = some (.slice h.l m.links.length h.lc) ∧ W.cell? ⟨w.heap.size, 5, none⟩ = some (.slice (some ⟨bi, oi, none⟩) m.items.length h.ic) ∧ W.cell? ⟨w.heap.size, 6, none⟩ = some (.int .i64 m.dark) ∧ W.cell? ⟨w.heap.size, 7, none⟩ = some (.int .i64 m.slots) ∧ W.cell? ⟨w.heap.size, 8, none⟩ = some (.int .i64 m.reserve) ∧ W.cell? ⟨w.heap.size, 9, none⟩ = some (.int .i64 m.failures) ∧ W.cell? ⟨w.heap.size, 10, none⟩ = some (.slice h.u m.rules.length h.uc)) ∧ (W.cell? ⟨w.heap.size + 1, 0, none⟩ = some (.int .i64 i) ∧ W.cell? ⟨w.heap.size + 1, 1, none⟩ = some (.int .i64 f) ∧ W.cell? ⟨w.heap.size + 1, 2, none⟩ = some (.int .i64 t)) ∧
      (W.cell? ⟨w.heap.size + 1 + 1, 0, none⟩ = some (.string x.name) ∧ W.cell? ⟨w.heap.size + 1 + 1, 1, none⟩ = some (.int .i64 x.kind) ∧ W.cell? ⟨w.heap.size + 1 + 1, 2, none⟩ = some (.int .i64 x.count) ∧ W.cell? ⟨w.heap.size + 1 + 1, 3, none⟩ = some (.int .i64 x.load) ∧ W.cell? ⟨w.heap.size + 1 + 1, 4, none⟩ = some (.int .i64 x.size) ∧ W.cell? ⟨w.heap.size + 1 + 1, 5, none⟩ = some (.int .i64 x.share) ∧ W.cell? ⟨w.heap.size + 1 + 1, 6, none⟩ = some (.slice A x.on.length c))) ∧ W.cell? ⟨w.heap.size + 1 + 1 + 1, 0, none⟩ = some (.func (.func 93) #[] #[.pointer (some ⟨w.heap.size + 1 + 1, 0, none⟩)]) := ⟨⟨⟨s.s.m.cell 0, s.s.m.cell 1, s.s.m.cell 2, s.s.m.cell 3, s.s.m.cell 4, s.s.m.cell 5, s.s.m.cell 6, s.s.m.cell 7, s.s.m.cell 8, s.s.m.cell 9, s.s.m.cell 10⟩, ⟨s.s.v.cell 0, s.s.v.cell 1, s.s.v.cell 2⟩, ⟨s.s.x.cell 0, s.s.x.cell 1, s.s.x.cell 2, s.s.x.cell 3, s.s.x.cell 4, s.s.x.cell 5, s.s.x.cell 6⟩⟩, s.o.cell 0⟩
theorem F5.start (w : World) (M V X : Array Value) : F5 w M V X ((((w.alloc (.cells M 29)).alloc (.cells V 51)).alloc (.cells X 91)).alloc (.cells #[.func (.func 93) #[] #[.pointer (some ⟨w.heap.size + 1 + 1, 0, none⟩)]] 125)) :=
  ⟨(F3.start w M V X).grow ((Below.refl _ _).alloc (Nat.le_refl _) _), by simpa using Blk.new (((w.alloc (.cells M 29)).alloc (.cells V 51)).alloc (.cells X 91)) 125 #[.func (.func 93) #[] #[.pointer (some ⟨w.heap.size + 1 + 1, 0, none⟩)]]⟩
set_option maxRecDepth 100000 in
set_option maxHeartbeats 1000000 in
theorem fits_no (h : MH) (m : Mod) (i f t : Int) (w : World) (_hil : m.items.length ≤ 9223372036854775807) (he : exI i m.items.length = false) :
    Calls Tryz.prog 52 #[.agg #[.slice h.s m.sites.length h.sc, .slice h.f m.feeds.length h.fc, .slice h.r m.racks.length h.rc, .slice h.m m.machs.length h.mc, .slice h.l m.links.length h.lc, .slice h.i m.items.length h.ic, .int .i64 m.dark, .int .i64 m.slots, .int .i64 m.reserve, .int .i64 m.failures, .slice h.u m.rules.length h.uc], .agg #[.int .i64 i, .int .i64 f, .int .i64 t]] w (AnsB w (.bool false)) := by
  have hb1 := (Below.refl w.heap.size w).alloc (Nat.le_refl _) (.cells #[.slice h.s m.sites.length h.sc, .slice h.f m.feeds.length h.fc, .slice h.r m.racks.length h.rc, .slice h.m m.machs.length h.mc, .slice h.l m.links.length h.lc, .slice h.i m.items.length h.ic, .int .i64 m.dark, .int .i64 m.slots, .int .i64 m.reserve, .int .i64 m.failures, .slice h.u m.rules.length h.uc] 29)
  have HB := hide (hb1.alloc hb1.size (.cells #[.int .i64 i, .int .i64 f, .int .i64 t] 51))
  simp only [exI, Bool.and_eq_false_iff, decide_eq_false_iff_not] at he
  clear hb1
  by_cases h1 : i < 1
  · clear he
    go_enter Tryz.func52, Tryz.ntmps52
    go_wp2_with fail
    go_ret
    exact ⟨rfl, HB.out⟩
  · have h2 : (m.items.length : Int) < i := by omega
    clear he
    go_enter Tryz.func52, Tryz.ntmps52
    go_wp2_with fail
    go_ret
    exact ⟨rfl, HB.out⟩
set_option maxRecDepth 100000 in
set_option maxHeartbeats 8000000 in
theorem fits_yes (h : MH) (m : Mod) (a : Nat) (f t : Int) (w : World) (d : MD w w.heap.size h m) (hv : validM m = true) (ha : a < m.items.length) :
    Calls Tryz.prog 52 #[.agg #[.slice h.s m.sites.length h.sc, .slice h.f m.feeds.length h.fc, .slice h.r m.racks.length h.rc, .slice h.m m.machs.length h.mc, .slice h.l m.links.length h.lc, .slice h.i m.items.length h.ic, .int .i64 m.dark, .int .i64 m.slots, .int .i64 m.reserve, .int .i64 m.failures, .slice h.u m.rules.length h.uc], .agg #[.int .i64 ((a : Int) + 1), .int .i64 f, .int .i64 t]] w (AnsB w (.bool (fitY m m.items[a] f t))) := by
    obtain ⟨s1, _⟩ := valid_sizes hv
    have hil := d.il
    obtain ⟨x, hx⟩ : ∃ x, x = m.items[a] := ⟨_, rfl⟩
    have hxm : x ∈ m.items := by rw [hx]; exact List.getElem_mem ha
    obtain ⟨hk, hon, _⟩ := valid_itm hv hxm
    obtain ⟨bi, oi, A, c, hA, hb, x0, x1, x2, x3, x4, x5, x6, _, hcl, hcm, gI⟩ := d.dI.item ha
    rw [← hx] at x0 x1 x2 x3 x4 x5 x6 hcl gI ⊢
    have hxl : x.on.length ≤ 9223372036854775807 := by omega
    have K : ItC w h m x A := ⟨d, gI, hon, hxl⟩
    have hs := F5.start w #[.slice h.s m.sites.length h.sc, .slice h.f m.feeds.length h.fc, .slice h.r m.racks.length h.rc, .slice h.m m.machs.length h.mc, .slice h.l m.links.length h.lc, .slice h.i m.items.length h.ic, .int .i64 m.dark, .int .i64 m.slots, .int .i64 m.reserve, .int .i64 m.failures, .slice h.u m.rules.length h.uc] #[.int .i64 ((a : Int) + 1), .int .i64 f, .int .i64 t] #[.string x.name, .int .i64 x.kind, .int .i64 x.count, .int .i64 x.load, .int .i64 x.size, .int .i64 x.share, .slice A x.on.length c]
    have HS := hide hs
    have HSH := hide shapes_prog
    have HLK := hide (sh_look hk)
    have HC := hide (fun W (s : F5 w #[.slice h.s m.sites.length h.sc, .slice h.f m.feeds.length h.fc, .slice h.r m.racks.length h.rc, .slice h.m m.machs.length h.mc, .slice h.l m.links.length h.lc, .slice h.i m.items.length h.ic, .int .i64 m.dark, .int .i64 m.slots, .int .i64 m.reserve, .int .i64 m.failures, .slice h.u m.rules.length h.uc] #[.int .i64 ((a : Int) + 1), .int .i64 f, .int .i64 t] #[.string x.name, .int .i64 x.kind, .int .i64 x.count, .int .i64 x.load, .int .i64 x.size, .int .i64 x.share, .slice A x.on.length c] W) => shape_prog h m x A c w.heap.size (w.heap.size + 1 + 1) (w.heap.size + 1 + 1 + 1) f t W ⟨s.s.m, s.s.x, s.o, K.grow s.b⟩)
    have HAP := hide (fun W (hW : Below w.heap.size w W) => apart_prog h m x A c ((a : Int) + 1) f t W (K.grow hW))
    have HLI := hide (fun W (hW : Below w.heap.size w W) => mlink_prog h m x A c ((a : Int) + 1) f t W (K.grow hW))
    have HV := hide (show fitY m x f t = (shapeB m x f t && (!apartB m x f t || decide (0 < linkY m x f t))) from rfl)
    obtain ⟨sb, hsb0⟩ : ∃ s, s = shapeB m x f t := ⟨_, rfl⟩
    obtain ⟨ap, hap0⟩ : ∃ s, s = apartB m x f t := ⟨_, rfl⟩
    obtain ⟨li, hli0⟩ : ∃ s, s = linkY m x f t := ⟨_, rfl⟩
    rw [← hsb0] at HC HV
    rw [← hap0] at HAP HV
    rw [← hli0] at HLI HV
    have eg := shF_enters x.kind
    obtain ⟨q, hq⟩ : ∃ q, q = shF x.kind := ⟨_, rfl⟩
    rw [← hq] at HC HLK eg
    have hU : undef = Value.tuple #[] := rfl
    have haI : (a : Int) < (m.items.length : Int) := by omega
    have h1 : ¬ ((a : Int) + 1 < 1) := by omega
    have h2 : ¬ ((m.items.length : Int) < (a : Int) + 1) := by omega
    have hw1 : IntKind.i64.wrap ((a : Int) + 1 - 1) = (a : Int) := by rw [IntWalk.i64_in _ (by omega)]; omega
    rw [hA] at HS HC HAP HLI
    have HA := hide hA
    clear hs hsb0 hap0 hli0 hq hk hon K gI hv d hcl hcm hx hxm
    rw [HA.out]
    go_enter Tryz.func52, Tryz.ntmps52
    go_wp2_with fail
    refine wp_region_held_drew (S := (fun W => (((W.cell? ⟨w.heap.size, 0, none⟩ = some (.slice h.s m.sites.length h.sc) ∧ W.cell? ⟨w.heap.size, 1, none⟩ = some (.slice h.f m.feeds.length h.fc) ∧ W.cell? ⟨w.heap.size, 2, none⟩ = some (.slice h.r m.racks.length h.rc) ∧ W.cell? ⟨w.heap.size, 3, none⟩ = some (.slice h.m m.machs.length h.mc) ∧ W.cell? ⟨w.heap.size, 4, none⟩ = some (.slice h.l m.links.length h.lc) ∧ W.cell? ⟨w.heap.size, 5, none⟩ = some (.slice (some ⟨bi, oi, none⟩) m.items.length h.ic) ∧ W.cell? ⟨w.heap.size, 6, none⟩ = some (.int .i64 m.dark) ∧ W.cell? ⟨w.heap.size, 7, none⟩ = some (.int .i64 m.slots) ∧ W.cell? ⟨w.heap.size, 8, none⟩ = some (.int .i64 m.reserve) ∧ W.cell? ⟨w.heap.size, 9, none⟩ = some (.int .i64 m.failures) ∧ W.cell? ⟨w.heap.size, 10, none⟩ = some (.slice h.u m.rules.length h.uc)) ∧ (W.cell? ⟨w.heap.size + 1, 0, none⟩ = some (.int .i64 ((a : Int) + 1)) ∧ W.cell? ⟨w.heap.size + 1, 1, none⟩ = some (.int .i64 f) ∧ W.cell? ⟨w.heap.size + 1, 2, none⟩ = some (.int .i64 t)) ∧ (W.cell? ⟨w.heap.size + 1 + 1, 0, none⟩ = some (.string x.name) ∧ W.cell? ⟨w.heap.size + 1 + 1, 1, none⟩ = some (.int .i64 x.kind) ∧ W.cell? ⟨w.heap.size + 1 + 1, 2, none⟩ = some (.int .i64 x.count) ∧ W.cell? ⟨w.heap.size + 1 + 1, 3, none⟩ = some (.int .i64 x.load) ∧ W.cell? ⟨w.heap.size + 1 + 1, 4, none⟩ = some (.int .i64 x.size) ∧ W.cell? ⟨w.heap.size + 1 + 1, 5, none⟩ = some (.int .i64 x.share) ∧ W.cell? ⟨w.heap.size + 1 + 1, 6, none⟩ = some (.slice A x.on.length c))) ∧ W.cell? ⟨w.heap.size + 1 + 1 + 1, 0, none⟩ = some (.func (.func 93) #[] #[.pointer (some ⟨w.heap.size + 1 + 1, 0, none⟩)])) ∧ F5 w #[.slice h.s m.sites.length h.sc, .slice h.f m.feeds.length h.fc, .slice h.r m.racks.length h.rc, .slice h.m m.machs.length h.mc, .slice h.l m.links.length h.lc, .slice (some ⟨bi, oi, none⟩) m.items.length h.ic, .int .i64 m.dark, .int .i64 m.slots, .int .i64 m.reserve, .int .i64 m.failures, .slice h.u m.rules.length h.uc] #[.int .i64 ((a : Int) + 1), .int .i64 f, .int .i64 t] #[.string x.name, .int .i64 x.kind, .int .i64 x.count, .int .i64 x.load, .int .i64 x.size, .int .i64 x.share, .slice A x.on.length c] W)) (by kernel_rfl) (⟨F5.cells HS.out.drew, HS.out.drew⟩) (fun hHeld => ?_)
    refine wpAnyH_take (i := 1) (oi := _) (v := ?_) rfl (by kernel_rfl) (by kernel_rfl) (by kernel_rfl) (fun _ _ _ h => h) (Or.inl ⟨by rfl, ?_⟩) hHeld ?_
    rotate_left
    · intro W hSw; (try dsimp only at hSw); go_simp; try with_reducible rfl
    simp only [Act.put, List.getElem_toArray, List.getElem_cons_succ, List.getElem_cons_zero, List.setIfInBounds_toArray, List.set_cons_zero, List.set_cons_succ]
    refine wpAnyH_take (i := 2) (oi := _) (v := ?_) rfl (by kernel_rfl) (by kernel_rfl) (by kernel_rfl) (fun _ _ _ h => h) (Or.inl ⟨by rfl, ?_⟩) hHeld ?_
    rotate_left
    · intro W hSw; (try dsimp only at hSw); go_simp; try with_reducible rfl
    simp only [Act.put, List.getElem_toArray, List.getElem_cons_succ, List.getElem_cons_zero, List.setIfInBounds_toArray, List.set_cons_zero, List.set_cons_succ]
    refine wpAnyH_take (i := 4) (oi := _) (v := ?_) rfl (by kernel_rfl) (by kernel_rfl) (by kernel_rfl) (fun _ _ _ h => h) (Or.inl ⟨by rfl, ?_⟩) hHeld ?_
    rotate_left
    · intro W hSw; (try dsimp only at hSw); go_simp; try with_reducible rfl
    simp only [Act.put, List.getElem_toArray, List.getElem_cons_succ, List.getElem_cons_zero, List.setIfInBounds_toArray, List.set_cons_zero, List.set_cons_succ]
    refine wpAnyH_take (i := 5) (oi := _) (v := ?_) rfl (by kernel_rfl) (by kernel_rfl) (by kernel_rfl) (fun _ _ _ h => h) (Or.inl ⟨by rfl, ?_⟩) hHeld ?_
    rotate_left
    · intro W hSw; (try dsimp only at hSw); go_simp; try with_reducible rfl
    simp only [Act.put, List.getElem_toArray, List.getElem_cons_succ, List.getElem_cons_zero, List.setIfInBounds_toArray, List.set_cons_zero, List.set_cons_succ]
    refine wpAnyH_take (i := 6) (oi := _) (v := ?_) rfl (by kernel_rfl) (by kernel_rfl) (by kernel_rfl) (fun _ _ _ h => h) (Or.inl ⟨by rfl, ?_⟩) hHeld ?_
    rotate_left
    · intro W hSw; (try dsimp only at hSw); go_simp; try with_reducible rfl
    simp only [Act.put, List.getElem_toArray, List.getElem_cons_succ, List.getElem_cons_zero, List.setIfInBounds_toArray, List.set_cons_zero, List.set_cons_succ]
    refine wpAnyH_take (i := 7) (oi := _) (v := ?_) rfl (by kernel_rfl) (by kernel_rfl) (by kernel_rfl) (fun _ _ _ h => h) (Or.inl ⟨by rfl, ?_⟩) hHeld ?_
    rotate_left
    · intro W hSw; (try dsimp only at hSw); go_simp; try with_reducible rfl
    simp only [Act.put, List.getElem_toArray, List.getElem_cons_succ, List.getElem_cons_zero, List.setIfInBounds_toArray, List.set_cons_zero, List.set_cons_succ]
    refine wpAnyH_take (i := 8) (oi := _) (v := ?_) rfl (by kernel_rfl) (by kernel_rfl) (by kernel_rfl) (fun _ _ _ h => h) (Or.inl ⟨by rfl, ?_⟩) hHeld ?_
    rotate_left
    · intro W hSw; (try dsimp only at hSw); go_simp; try with_reducible rfl
    simp only [Act.put, List.getElem_toArray, List.getElem_cons_succ, List.getElem_cons_zero, List.setIfInBounds_toArray, List.set_cons_zero, List.set_cons_succ]
    refine wpAnyH_take (i := 9) (oi := _) (v := ?_) rfl (by kernel_rfl) (by kernel_rfl) (by kernel_rfl) (fun _ _ _ h => h) (Or.inl ⟨by rfl, ?_⟩) hHeld ?_
    rotate_left
    · intro W hSw; (try dsimp only at hSw); go_simp; try with_reducible rfl
    simp only [Act.put, List.getElem_toArray, List.getElem_cons_succ, List.getElem_cons_zero, List.setIfInBounds_toArray, List.set_cons_zero, List.set_cons_succ]
    refine wpAnyH_ready (rs := [0]) (by kernel_rfl) (by simp) ?_
    refine AllReadyH.cons rfl (fun K hK => ?_) AllReadyH.nil
    go_simp
    go_at_call 96
    (with_reducible refine (HSH.out _).mono ?_)
    rintro e w2 ⟨r, rfl, hm, hb⟩
    have hlk := HLK.out w2 r hm
    have c1 := F5.grow HS.out.drew hb
    clear hb hm
    (try dsimp only)
    refine hK.out _ _ (⟨F5.cells c1, c1⟩) (fun hHeld => ?_)
    clear hK K
    refine wpAnyH_ready (rs := [3]) (by kernel_rfl) (by simp) ?_
    refine AllReadyH.cons rfl (fun K hK => ?_) AllReadyH.nil
    go_simp
    skip
    (try dsimp only)
    refine hK.out _ _ (⟨F5.cells c1, c1⟩) (fun hHeld => ?_)
    clear hK K
    refine wpAnyH_ready (rs := [10]) (by kernel_rfl) (by simp) ?_
    refine AllReadyH.cons rfl (fun K hK => ?_) AllReadyH.nil
    go_simp
    (with_reducible refine Calls.mono (HC.out _ c1) ?_)
    rintro e w3 ⟨rfl, hb⟩
    have c2 := F5.grow c1 hb
    clear hb hlk
    (try dsimp only)
    refine hK.out _ _ (⟨F5.cells c2, c2⟩) (fun hHeld => ?_)
    clear hK K
    refine wpAnyH_take (i := 11) (oi := _) (v := ?_) rfl (by kernel_rfl) (by kernel_rfl) (by kernel_rfl) (fun _ _ _ h => h) (Or.inl ⟨by rfl, ?_⟩) hHeld ?_
    rotate_left
    · intro W hSw; (try dsimp only at hSw); go_simp; try with_reducible rfl
    simp only [Act.put, List.getElem_toArray, List.getElem_cons_succ, List.getElem_cons_zero, List.setIfInBounds_toArray, List.set_cons_zero, List.set_cons_succ]
    cases hsb : sb
    · refine wpAnyH_take (i := 12) (oi := _) (v := _) rfl (by kernel_rfl) (by kernel_rfl) (by kernel_rfl) (fun _ _ _ h => h) (Or.inr ⟨by rfl, rfl⟩) hHeld ?_
      simp only [Act.put, List.getElem_toArray, List.getElem_cons_succ, List.getElem_cons_zero, List.setIfInBounds_toArray, List.set_cons_zero, List.set_cons_succ]
      refine wpAnyH_take (i := 13) (oi := _) (v := _) rfl (by kernel_rfl) (by kernel_rfl) (by kernel_rfl) (fun _ _ _ h => h) (Or.inr ⟨by rfl, rfl⟩) hHeld ?_
      simp only [Act.put, List.getElem_toArray, List.getElem_cons_succ, List.getElem_cons_zero, List.setIfInBounds_toArray, List.set_cons_zero, List.set_cons_succ]
      refine wpAnyH_take (i := 14) (oi := _) (v := _) rfl (by kernel_rfl) (by kernel_rfl) (by kernel_rfl) (fun _ _ _ h => h) (Or.inr ⟨by rfl, rfl⟩) hHeld ?_
      simp only [Act.put, List.getElem_toArray, List.getElem_cons_succ, List.getElem_cons_zero, List.setIfInBounds_toArray, List.set_cons_zero, List.set_cons_succ]
      refine wpAnyH_take (i := 15) (oi := _) (v := _) rfl (by kernel_rfl) (by kernel_rfl) (by kernel_rfl) (fun _ _ _ h => h) (Or.inr ⟨by rfl, rfl⟩) hHeld ?_
      simp only [Act.put, List.getElem_toArray, List.getElem_cons_succ, List.getElem_cons_zero, List.setIfInBounds_toArray, List.set_cons_zero, List.set_cons_succ]
      refine wpAnyH_take (i := 16) (oi := _) (v := _) rfl (by kernel_rfl) (by kernel_rfl) (by kernel_rfl) (fun _ _ _ h => h) (Or.inr ⟨by rfl, rfl⟩) hHeld ?_
      simp only [Act.put, List.getElem_toArray, List.getElem_cons_succ, List.getElem_cons_zero, List.setIfInBounds_toArray, List.set_cons_zero, List.set_cons_succ]
      refine wpAnyH_take (i := 17) (oi := _) (v := _) rfl (by kernel_rfl) (by kernel_rfl) (by kernel_rfl) (fun _ _ _ h => h) (Or.inr ⟨by rfl, rfl⟩) hHeld ?_
      simp only [Act.put, List.getElem_toArray, List.getElem_cons_succ, List.getElem_cons_zero, List.setIfInBounds_toArray, List.set_cons_zero, List.set_cons_succ]
      refine wpAnyH_take (i := 18) (oi := _) (v := _) rfl (by kernel_rfl) (by kernel_rfl) (by kernel_rfl) (fun _ _ _ h => h) (Or.inr ⟨by rfl, rfl⟩) hHeld ?_
      simp only [Act.put, List.getElem_toArray, List.getElem_cons_succ, List.getElem_cons_zero, List.setIfInBounds_toArray, List.set_cons_zero, List.set_cons_succ]
      refine wpAnyH_take (i := 19) (oi := _) (v := _) rfl (by kernel_rfl) (by kernel_rfl) (by kernel_rfl) (fun _ _ _ h => h) (Or.inr ⟨by rfl, rfl⟩) hHeld ?_
      simp only [Act.put, List.getElem_toArray, List.getElem_cons_succ, List.getElem_cons_zero, List.setIfInBounds_toArray, List.set_cons_zero, List.set_cons_succ]
      refine wpAnyH_take (i := 20) (oi := _) (v := _) rfl (by kernel_rfl) (by kernel_rfl) (by kernel_rfl) (fun _ _ _ h => h) (Or.inr ⟨by rfl, rfl⟩) hHeld ?_
      simp only [Act.put, List.getElem_toArray, List.getElem_cons_succ, List.getElem_cons_zero, List.setIfInBounds_toArray, List.set_cons_zero, List.set_cons_succ]
      refine wpAnyH_take (i := 21) (oi := _) (v := _) rfl (by kernel_rfl) (by kernel_rfl) (by kernel_rfl) (fun _ _ _ h => h) (Or.inr ⟨by rfl, rfl⟩) hHeld ?_
      simp only [Act.put, List.getElem_toArray, List.getElem_cons_succ, List.getElem_cons_zero, List.setIfInBounds_toArray, List.set_cons_zero, List.set_cons_succ]
      refine wpAnyH_take (i := 22) (oi := _) (v := _) rfl (by kernel_rfl) (by kernel_rfl) (by kernel_rfl) (fun _ _ _ h => h) (Or.inr ⟨by rfl, rfl⟩) hHeld ?_
      simp only [Act.put, List.getElem_toArray, List.getElem_cons_succ, List.getElem_cons_zero, List.setIfInBounds_toArray, List.set_cons_zero, List.set_cons_succ]
      refine wpAnyH_take (i := 23) (oi := _) (v := _) rfl (by kernel_rfl) (by kernel_rfl) (by kernel_rfl) (fun _ _ _ h => h) (Or.inr ⟨by rfl, rfl⟩) hHeld ?_
      simp only [Act.put, List.getElem_toArray, List.getElem_cons_succ, List.getElem_cons_zero, List.setIfInBounds_toArray, List.set_cons_zero, List.set_cons_succ]
      refine wpAnyH_take (i := 24) (oi := _) (v := .bool false) rfl (by kernel_rfl) (by kernel_rfl) (by kernel_rfl) (fun _ _ _ h => h) (Or.inl ⟨by rfl, ?_⟩) hHeld ?_
      · intro W hSw; (try dsimp only at hSw); go_simp
      simp only [Act.put, List.getElem_toArray, List.getElem_cons_succ, List.getElem_cons_zero, List.setIfInBounds_toArray, List.set_cons_zero, List.set_cons_succ]
      refine wpAnyH_take (i := 25) (oi := _) (v := ?_) rfl (by kernel_rfl) (by kernel_rfl) (by kernel_rfl) (fun _ _ _ h => h) (Or.inl ⟨by rfl, ?_⟩) hHeld ?_
      rotate_left
      · intro W hSw; (try dsimp only at hSw); go_simp; try with_reducible rfl
      simp only [Act.put, List.getElem_toArray, List.getElem_cons_succ, List.getElem_cons_zero, List.setIfInBounds_toArray, List.set_cons_zero, List.set_cons_succ]
      refine wpAnyH_done (by kernel_rfl) ?_ _
      go_wp2_with fail
      go_ret
      exact ⟨ret_congr (by rw [HV.out, hsb]; rfl), c2.b⟩
    · refine wpAnyH_take (i := 12) (oi := _) (v := ?_) rfl (by kernel_rfl) (by kernel_rfl) (by kernel_rfl) (fun _ _ _ h => h) (Or.inl ⟨by rfl, ?_⟩) hHeld ?_
      rotate_left
      · intro W hSw; (try dsimp only at hSw); go_simp; try with_reducible rfl
      simp only [Act.put, List.getElem_toArray, List.getElem_cons_succ, List.getElem_cons_zero, List.setIfInBounds_toArray, List.set_cons_zero, List.set_cons_succ]
      refine wpAnyH_take (i := 13) (oi := _) (v := ?_) rfl (by kernel_rfl) (by kernel_rfl) (by kernel_rfl) (fun _ _ _ h => h) (Or.inl ⟨by rfl, ?_⟩) hHeld ?_
      rotate_left
      · intro W hSw; (try dsimp only at hSw); go_simp; try with_reducible rfl
      simp only [Act.put, List.getElem_toArray, List.getElem_cons_succ, List.getElem_cons_zero, List.setIfInBounds_toArray, List.set_cons_zero, List.set_cons_succ]
      refine wpAnyH_take (i := 14) (oi := _) (v := ?_) rfl (by kernel_rfl) (by kernel_rfl) (by kernel_rfl) (fun _ _ _ h => h) (Or.inl ⟨by rfl, ?_⟩) hHeld ?_
      rotate_left
      · intro W hSw; (try dsimp only at hSw); go_simp; try with_reducible rfl
      simp only [Act.put, List.getElem_toArray, List.getElem_cons_succ, List.getElem_cons_zero, List.setIfInBounds_toArray, List.set_cons_zero, List.set_cons_succ]
      refine wpAnyH_ready (rs := [15]) (by kernel_rfl) (by simp) ?_
      refine AllReadyH.cons rfl (fun K hK => ?_) AllReadyH.nil
      go_simp
      go_at_call 97
      (with_reducible refine (HAP.out _ (F5.b c2)).mono ?_)
      rintro e w4 ⟨rfl, hb⟩
      have c3 := F5.grow c2 hb
      clear hb
      (try dsimp only)
      refine hK.out _ _ (⟨F5.cells c3, c3⟩) (fun hHeld => ?_)
      clear hK K
      cases hap : ap
      · refine wpAnyH_take (i := 16) (oi := _) (v := ?_) rfl (by kernel_rfl) (by kernel_rfl) (by kernel_rfl) (fun _ _ _ h => h) (Or.inl ⟨by rfl, ?_⟩) hHeld ?_
        rotate_left
        · intro W hSw; (try dsimp only at hSw); go_simp; try with_reducible rfl
        simp only [Act.put, List.getElem_toArray, List.getElem_cons_succ, List.getElem_cons_zero, List.setIfInBounds_toArray, List.set_cons_zero, List.set_cons_succ]
        refine wpAnyH_take (i := 17) (oi := _) (v := ?_) rfl (by kernel_rfl) (by kernel_rfl) (by kernel_rfl) (fun _ _ _ h => h) (Or.inl ⟨by rfl, ?_⟩) hHeld ?_
        rotate_left
        · intro W hSw; (try dsimp only at hSw); go_simp; try with_reducible rfl
        simp only [Act.put, List.getElem_toArray, List.getElem_cons_succ, List.getElem_cons_zero, List.setIfInBounds_toArray, List.set_cons_zero, List.set_cons_succ]
        refine wpAnyH_take (i := 18) (oi := _) (v := _) rfl (by kernel_rfl) (by kernel_rfl) (by kernel_rfl) (fun _ _ _ h => h) (Or.inr ⟨by rfl, rfl⟩) hHeld ?_
        simp only [Act.put, List.getElem_toArray, List.getElem_cons_succ, List.getElem_cons_zero, List.setIfInBounds_toArray, List.set_cons_zero, List.set_cons_succ]
        refine wpAnyH_take (i := 19) (oi := _) (v := _) rfl (by kernel_rfl) (by kernel_rfl) (by kernel_rfl) (fun _ _ _ h => h) (Or.inr ⟨by rfl, rfl⟩) hHeld ?_
        simp only [Act.put, List.getElem_toArray, List.getElem_cons_succ, List.getElem_cons_zero, List.setIfInBounds_toArray, List.set_cons_zero, List.set_cons_succ]
        refine wpAnyH_take (i := 20) (oi := _) (v := _) rfl (by kernel_rfl) (by kernel_rfl) (by kernel_rfl) (fun _ _ _ h => h) (Or.inr ⟨by rfl, rfl⟩) hHeld ?_
        simp only [Act.put, List.getElem_toArray, List.getElem_cons_succ, List.getElem_cons_zero, List.setIfInBounds_toArray, List.set_cons_zero, List.set_cons_succ]
        refine wpAnyH_take (i := 21) (oi := _) (v := _) rfl (by kernel_rfl) (by kernel_rfl) (by kernel_rfl) (fun _ _ _ h => h) (Or.inr ⟨by rfl, rfl⟩) hHeld ?_
        simp only [Act.put, List.getElem_toArray, List.getElem_cons_succ, List.getElem_cons_zero, List.setIfInBounds_toArray, List.set_cons_zero, List.set_cons_succ]
        refine wpAnyH_take (i := 22) (oi := _) (v := _) rfl (by kernel_rfl) (by kernel_rfl) (by kernel_rfl) (fun _ _ _ h => h) (Or.inr ⟨by rfl, rfl⟩) hHeld ?_
        simp only [Act.put, List.getElem_toArray, List.getElem_cons_succ, List.getElem_cons_zero, List.setIfInBounds_toArray, List.set_cons_zero, List.set_cons_succ]
        refine wpAnyH_take (i := 23) (oi := _) (v := .bool true) rfl (by kernel_rfl) (by kernel_rfl) (by kernel_rfl) (fun _ _ _ h => h) (Or.inl ⟨by rfl, ?_⟩) hHeld ?_
        · intro W hSw; (try dsimp only at hSw); go_simp
        simp only [Act.put, List.getElem_toArray, List.getElem_cons_succ, List.getElem_cons_zero, List.setIfInBounds_toArray, List.set_cons_zero, List.set_cons_succ]
        refine wpAnyH_take (i := 24) (oi := _) (v := .bool true) rfl (by kernel_rfl) (by kernel_rfl) (by kernel_rfl) (fun _ _ _ h => h) (Or.inl ⟨by rfl, ?_⟩) hHeld ?_
        · intro W hSw; (try dsimp only at hSw); go_simp
        simp only [Act.put, List.getElem_toArray, List.getElem_cons_succ, List.getElem_cons_zero, List.setIfInBounds_toArray, List.set_cons_zero, List.set_cons_succ]
        refine wpAnyH_take (i := 25) (oi := _) (v := ?_) rfl (by kernel_rfl) (by kernel_rfl) (by kernel_rfl) (fun _ _ _ h => h) (Or.inl ⟨by rfl, ?_⟩) hHeld ?_
        rotate_left
        · intro W hSw; (try dsimp only at hSw); go_simp; try with_reducible rfl
        simp only [Act.put, List.getElem_toArray, List.getElem_cons_succ, List.getElem_cons_zero, List.setIfInBounds_toArray, List.set_cons_zero, List.set_cons_succ]
        refine wpAnyH_done (by kernel_rfl) ?_ _
        go_wp2_with fail
        go_ret
        exact ⟨ret_congr (by rw [HV.out, hsb, hap]; rfl), c3.b⟩
      · refine wpAnyH_take (i := 16) (oi := _) (v := ?_) rfl (by kernel_rfl) (by kernel_rfl) (by kernel_rfl) (fun _ _ _ h => h) (Or.inl ⟨by rfl, ?_⟩) hHeld ?_
        rotate_left
        · intro W hSw; (try dsimp only at hSw); go_simp; try with_reducible rfl
        simp only [Act.put, List.getElem_toArray, List.getElem_cons_succ, List.getElem_cons_zero, List.setIfInBounds_toArray, List.set_cons_zero, List.set_cons_succ]
        refine wpAnyH_take (i := 17) (oi := _) (v := ?_) rfl (by kernel_rfl) (by kernel_rfl) (by kernel_rfl) (fun _ _ _ h => h) (Or.inl ⟨by rfl, ?_⟩) hHeld ?_
        rotate_left
        · intro W hSw; (try dsimp only at hSw); go_simp; try with_reducible rfl
        simp only [Act.put, List.getElem_toArray, List.getElem_cons_succ, List.getElem_cons_zero, List.setIfInBounds_toArray, List.set_cons_zero, List.set_cons_succ]
        refine wpAnyH_take (i := 18) (oi := _) (v := ?_) rfl (by kernel_rfl) (by kernel_rfl) (by kernel_rfl) (fun _ _ _ h => h) (Or.inl ⟨by rfl, ?_⟩) hHeld ?_
        rotate_left
        · intro W hSw; (try dsimp only at hSw); go_simp; try with_reducible rfl
        simp only [Act.put, List.getElem_toArray, List.getElem_cons_succ, List.getElem_cons_zero, List.setIfInBounds_toArray, List.set_cons_zero, List.set_cons_succ]
        refine wpAnyH_take (i := 19) (oi := _) (v := ?_) rfl (by kernel_rfl) (by kernel_rfl) (by kernel_rfl) (fun _ _ _ h => h) (Or.inl ⟨by rfl, ?_⟩) hHeld ?_
        rotate_left
        · intro W hSw; (try dsimp only at hSw); go_simp; try with_reducible rfl
        simp only [Act.put, List.getElem_toArray, List.getElem_cons_succ, List.getElem_cons_zero, List.setIfInBounds_toArray, List.set_cons_zero, List.set_cons_succ]
        refine wpAnyH_take (i := 20) (oi := _) (v := ?_) rfl (by kernel_rfl) (by kernel_rfl) (by kernel_rfl) (fun _ _ _ h => h) (Or.inl ⟨by rfl, ?_⟩) hHeld ?_
        rotate_left
        · intro W hSw; (try dsimp only at hSw); go_simp; try with_reducible rfl
        simp only [Act.put, List.getElem_toArray, List.getElem_cons_succ, List.getElem_cons_zero, List.setIfInBounds_toArray, List.set_cons_zero, List.set_cons_succ]
        refine wpAnyH_ready (rs := [21]) (by kernel_rfl) (by simp) ?_
        refine AllReadyH.cons rfl (fun K hK => ?_) AllReadyH.nil
        go_simp
        go_at_call 98
        (with_reducible refine (HLI.out _ (F5.b c3)).mono ?_)
        rintro e w5 ⟨rfl, hb⟩
        have c4 := F5.grow c3 hb
        clear hb
        (try dsimp only)
        refine hK.out _ _ (⟨F5.cells c4, c4⟩) (fun hHeld => ?_)
        clear hK K
        refine wpAnyH_take (i := 22) (oi := _) (v := ?_) rfl (by kernel_rfl) (by kernel_rfl) (by kernel_rfl) (fun _ _ _ h => h) (Or.inl ⟨by rfl, ?_⟩) hHeld ?_
        rotate_left
        · intro W hSw; (try dsimp only at hSw); go_simp; try with_reducible rfl
        simp only [Act.put, List.getElem_toArray, List.getElem_cons_succ, List.getElem_cons_zero, List.setIfInBounds_toArray, List.set_cons_zero, List.set_cons_succ]
        refine wpAnyH_take (i := 23) (oi := _) (v := ?_) rfl (by kernel_rfl) (by kernel_rfl) (by kernel_rfl) (fun _ _ _ h => h) (Or.inl ⟨by rfl, ?_⟩) hHeld ?_
        rotate_left
        · intro W hSw; (try dsimp only at hSw); go_simp; try with_reducible rfl
        simp only [Act.put, List.getElem_toArray, List.getElem_cons_succ, List.getElem_cons_zero, List.setIfInBounds_toArray, List.set_cons_zero, List.set_cons_succ]
        refine wpAnyH_take (i := 24) (oi := _) (v := ?_) rfl (by kernel_rfl) (by kernel_rfl) (by kernel_rfl) (fun _ _ _ h => h) (Or.inl ⟨by rfl, ?_⟩) hHeld ?_
        rotate_left
        · intro W hSw; (try dsimp only at hSw); go_simp; try with_reducible rfl
        simp only [Act.put, List.getElem_toArray, List.getElem_cons_succ, List.getElem_cons_zero, List.setIfInBounds_toArray, List.set_cons_zero, List.set_cons_succ]
        refine wpAnyH_take (i := 25) (oi := _) (v := ?_) rfl (by kernel_rfl) (by kernel_rfl) (by kernel_rfl) (fun _ _ _ h => h) (Or.inl ⟨by rfl, ?_⟩) hHeld ?_
        rotate_left
        · intro W hSw; (try dsimp only at hSw); go_simp; try with_reducible rfl
        simp only [Act.put, List.getElem_toArray, List.getElem_cons_succ, List.getElem_cons_zero, List.setIfInBounds_toArray, List.set_cons_zero, List.set_cons_succ]
        refine wpAnyH_done (by kernel_rfl) ?_ _
        go_wp2_with fail
        go_ret
        exact ⟨ret_congr (by rw [HV.out, hsb, hap]; rfl), c4.b⟩
theorem fits_prog (h : MH) (m : Mod) (v : MvM) (w : World) (d : MD w w.heap.size h m) (hv : validM m = true) :
    Calls Tryz.prog 52 #[.agg #[.slice h.s m.sites.length h.sc, .slice h.f m.feeds.length h.fc, .slice h.r m.racks.length h.rc, .slice h.m m.machs.length h.mc, .slice h.l m.links.length h.lc, .slice h.i m.items.length h.ic, .int .i64 m.dark, .int .i64 m.slots, .int .i64 m.reserve, .int .i64 m.failures, .slice h.u m.rules.length h.uc], .agg #[.int .i64 v.1, .int .i64 v.2.1, .int .i64 v.2.2]] w (AnsB w (.bool (fitB m v))) := by
  obtain ⟨i, f, t⟩ := v
  cases he : exI i m.items.length
  · rw [show fitB m (i, f, t) = false by rw [fitB, itemAt_no he]]
    exact fits_no h m i f t w d.il he
  · obtain ⟨a, ha, rfl⟩ := exI_yes he
    rw [fitB_yes ha]
    exact fits_yes h m a f t w d hv ha
end Go.Proofs.YtpggamapmgpjcaaGreatDoor
