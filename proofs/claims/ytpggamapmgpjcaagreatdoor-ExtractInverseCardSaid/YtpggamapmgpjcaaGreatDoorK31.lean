/- The walk of extract.steps at any model. Conditions: lengths that fit memory; the table of spaces. Plain: the order of steps, and the list of steps in order. Conditions: none. -/
import Derived.Test.YtpggamapmgpjcaaGreatDoorK30
import Derived.Test.YtpggamapmgpjcaaGreatDoorK10
import Derived.Lib.Small
import Derived.Sort.Statements

namespace Go.Proofs.YtpggamapmgpjcaaGreatDoor
open Go Go.RowKit Go.Proofs

theorem choR_ok {m : Mod} (h : (choR m).2 = 0) : validM m = true ∧ candR m = (candM m, 0) ∧ choR m = ((chM m).map (·.1), 0) := by
  unfold choR at h ⊢
  split at h
  · rename_i h1
    exact absurd h h1
  · rename_i h1
    rw [if_neg h1]
    split at h
    · simp at h
    · rename_i h2
      rw [if_neg h2]
      have h3 : (candR m).2 = 0 := by simpa using h1
      unfold candR at h3 ⊢
      split at h3
      · simp at h3
      · rename_i h4
        split at h3
        · simp at h3
        · rename_i h5
          rw [if_neg h4, if_neg h5]
          exact ⟨by simpa using h4, rfl, rfl⟩
set_option maxRecDepth 100000 in
set_option maxHeartbeats 4000000 in
theorem steps_no (h : MH) (m : Mod) (w : World) (d : MD w w.heap.size h m) (k1 : m.racks.length ≤ h.rc) (k2 : m.machs.length ≤ h.mc) (k3 : m.links.length ≤ h.lc) (ha : Asc w) (hc : (choR m).2 ≠ 0) :
    Calls Tryz.prog 21 #[.agg #[.slice h.s m.sites.length h.sc, .slice h.f m.feeds.length h.fc, .slice h.r m.racks.length h.rc, .slice h.m m.machs.length h.mc, .slice h.l m.links.length h.lc, .slice h.i m.items.length h.ic, .int .i64 m.dark, .int .i64 m.slots, .int .i64 m.reserve, .int .i64 m.failures, .slice h.u m.rules.length h.uc]] w (RdR elSt w (stepsR m).1 (stepsR m).2) := by
  rw [show stepsR m = ([], (choR m).2) by rw [stepsR, if_pos hc]]
  have hb := (Below.refl w.heap.size w).alloc (Nat.le_refl _) (.cells #[.slice h.s m.sites.length h.sc, .slice h.f m.feeds.length h.fc, .slice h.r m.racks.length h.rc, .slice h.m m.machs.length h.mc, .slice h.l m.links.length h.lc, .slice h.i m.items.length h.ic, .int .i64 m.dark, .int .i64 m.slots, .int .i64 m.reserve, .int .i64 m.failures, .slice h.u m.rules.length h.uc] 29)
  have HB := hide hb
  have HCH := hide (choices_prog h m _ (d.grow hb) k1 k2 k3 (ha.below (Nat.le_refl _) hb))
  obtain ⟨q, hq⟩ : ∃ q, q = (choR m).2 := ⟨_, rfl⟩
  rw [← hq] at HCH hc ⊢
  have g : (q != 0) = true := by simpa using hc
  clear hb d k1 k2 k3 ha hc hq
  go_enter Tryz.func21, Tryz.ntmps21
  go_wp2_with (go_at_call 15; refine HCH.out.mono ?_; rintro e w1 ⟨A, c, rfl, _, hb1⟩; have HB1 := hide (HB.out.trans (hb1.mono HB.out.size)); clear hb1)
  go_ret2
  exact ⟨none, 0, rfl, RdE.nil_, HB1.out⟩
set_option maxRecDepth 100000 in
set_option maxHeartbeats 8000000 in
theorem steps_yes (h : MH) (m : Mod) (w : World) (d : MD w w.heap.size h m) (k1 : m.racks.length ≤ h.rc) (k2 : m.machs.length ≤ h.mc) (k3 : m.links.length ≤ h.lc) (ha : Asc w) (hc : (choR m).2 = 0) :
    Calls Tryz.prog 21 #[.agg #[.slice h.s m.sites.length h.sc, .slice h.f m.feeds.length h.fc, .slice h.r m.racks.length h.rc, .slice h.m m.machs.length h.mc, .slice h.l m.links.length h.lc, .slice h.i m.items.length h.ic, .int .i64 m.dark, .int .i64 m.slots, .int .i64 m.reserve, .int .i64 m.failures, .slice h.u m.rules.length h.uc]] w (RdR elSt w (stepsR m).1 (stepsR m).2) := by
  obtain ⟨hv, hcr, hch⟩ := choR_ok hc
  rw [show stepsR m = (stepsM m, 0) by rw [stepsR, if_neg (by simpa using hc)]]
  have hb := (Below.refl w.heap.size w).alloc (Nat.le_refl _) (.cells #[.slice h.s m.sites.length h.sc, .slice h.f m.feeds.length h.fc, .slice h.r m.racks.length h.rc, .slice h.m m.machs.length h.mc, .slice h.l m.links.length h.lc, .slice h.i m.items.length h.ic, .int .i64 m.dark, .int .i64 m.slots, .int .i64 m.reserve, .int .i64 m.failures, .slice h.u m.rules.length h.uc] 29)
  have HB := hide hb
  have HM0 := hide (Blk.new w 29 #[.slice h.s m.sites.length h.sc, .slice h.f m.feeds.length h.fc, .slice h.r m.racks.length h.rc, .slice h.m m.machs.length h.mc, .slice h.l m.links.length h.lc, .slice h.i m.items.length h.ic, .int .i64 m.dark, .int .i64 m.slots, .int .i64 m.reserve, .int .i64 m.failures, .slice h.u m.rules.length h.uc])
  have HCH := hide (choices_prog h m _ (d.grow hb) k1 k2 k3 (ha.below (Nat.le_refl _) hb))
  rw [hch] at HCH
  have HCA := hide (fun W (hW : Below w.heap.size w W) => cands_prog h m W (d.grow hW) k1 k2 k3 (ha.below (Nat.le_refl _) hW))
  rw [hcr] at HCA
  have HLN := hide (And.intro (cand_len hv) (steps_len hv))
  clear hb d k1 k2 k3 ha hc hv hcr hch
  dsimp only at HCA HCH
  go_enter Tryz.func21, Tryz.ntmps21
  go_wp2_with (first
    | (go_at_call 15; refine HCH.out.mono ?_; rintro e w1 ⟨A, c, rfl, hr, hb1⟩
       rw [show ((chM m).map (·.1)).length = (stepsM m).length by simp [stepsM]]
       have hm1 := HM0.out.below hb1 (by simp)
       obtain ⟨a0, a1, a2, a3, a4, a5, a6, a7, a8, a9, a10⟩ := MB.cells hm1
       have al := hm1.lt
       have HB1 := hide (HB.out.trans (hb1.mono HB.out.size))
       have HR1 := hide hr
       clear hb1 hm1 hr)
    | (go_at_call 37; refine (HCA.out _ HB1.out).mono ?_; rintro e w2 ⟨A2, c2, rfl, hr2, hb2⟩
       have HB2 := hide (HB1.out.trans (hb2.mono HB1.out.size))
       have HR2 := hide (HR1.out.grow hb2)
       have HRC := hide hr2
       clear hb2 hr2 a0 a1 a2 a3 a4 a5 a6 a7 a8 a9 a10 al))
  obtain ⟨n, hn⟩ : ∃ n, n = (stepsM m).length := ⟨_, rfl⟩
  have hn4 : n ≤ 48000 := by rw [hn]; exact HLN.out.2
  obtain ⟨nc, hnc⟩ : ∃ nc, nc = (candM m).length := ⟨_, rfl⟩
  have hnc3 : nc ≤ 3000 := by rw [hnc]; exact HLN.out.1
  rw [← hn, ← hnc]
  have HN := hide hn
  have HNC := hide hnc
  clear hn hnc
  have HO0 := hide (OwnE_.nil_ (E := elSt) w2.heap.size w2)
  go_loopw [8, 26] (fun v i wr => ∃ k : Nat, k ≤ n ∧ i = .int .i64 k ∧ Hid (OwnE_ elSt w2.heap.size wr v ((stepsM m).take k)) ∧ Hid (Below w2.heap.size w2 wr)) (fun _ i _ => n - (intOf i).toNat)
  case atStart => exact ⟨0, Nat.zero_le _, rfl, HO0, hide (Below.refl _ _)⟩
  case round =>
    obtain ⟨k, hk, rfl, hO, hbr⟩ := hrel
    clear HO0
    by_cases hlt : k < n
    · have hks : k < (stepsM m).length := by rw [← HN.out]; exact hlt
      have hkc : k < (chM m).length := by simpa [stepsM] using hks
      have hkm : k < ((chM m).map (·.1)).length := by simpa using hkc
      obtain ⟨bc, oc, hA, hbc, x0, x1⟩ := rd_ch (HR2.out.grow hbr.out) hkm
      obtain ⟨j, s, hj, hs, hx⟩ := mem_ch.1 (List.getElem_mem hkc)
      rw [List.getElem_map, hx] at x0 x1
      dsimp only at x0 x1
      obtain ⟨bm, om, hA2, hbm, y0, y1, y2⟩ := rd_mv (HRC.out.grow hbr.out) hj
      obtain ⟨x, hxx⟩ : ∃ x, x = (candM m)[j] := ⟨_, rfl⟩
      rw [← hxx] at y0 y1 y2
      have HE := hide (show (stepsM m).take k ++ [((s : Int), x)] = (stepsM m).take (k + 1) by
        rw [List.take_succ_eq_append_getElem hks]
        congr 2
        simp only [stepsM, List.getElem_map, hx, hxx])
      have hltI : (k : Int) < (n : Int) := by omega
      have hjI : (j : Int) < (nc : Int) := by rw [HNC.out]; omega
      obtain ⟨ll, hll⟩ : ∃ ll, ll = (stepsM m).take k := ⟨_, rfl⟩
      have HLL := hide (show ll.length ≤ 48000 by rw [hll, List.length_take]; omega)
      rw [← hll] at hO HE
      have hb5 := (Below.refl wr.heap.size wr).alloc (Nat.le_refl _) (.cells #[.int .i64 (j : Int), .int .i64 (s : Int)] 68)
      have HO5 := hide (hO.out.below hb5)
      have HB5 := hide (hbr.out.trans (hb5.mono hbr.out.size))
      have hwj : IntKind.i64.wrap (j : Int) = j := IntWalk.i64_in _ (by omega)
      subst hA hA2
      clear hx hxx hll hO hbr hb5 hkm hkc hks hs hj
      go_wp2_with fail
      go_region_law
        ((first
          | (refine step_append_el okSt rfl _ _ rfl w2.heap.size u8 ll rfl ((HO5.out.below (Below.refl _ _).drew).below ((Below.refl _ _).alloc (Nat.le_refl _) _)) _ _ 1 1 [((s : Int), x)] rfl (Reads.newE2 (E := elSt) _ ((s : Int), x) (by simp)) rfl (by have := HLL.out; simp; omega) (by have := HB5.out.size; simp at this ⊢; omega) ?_
             intro v3 w3 ho3 hg3 _
             have HO3 := hide ho3
             have HB3 := hide (Below.ofGrown (HB5.out.drew.alloc (by have := HB5.out.size; simp at this ⊢; omega) (.cells (elSt.f ((s : Int), x)).toArray elSt.T)) hg3 (by have := HB5.out.size; simp at this ⊢; omega) (fun k hk => (HO5.out.lt k hk).1))
             clear ho3 hg3)))
      all_goals
        go_wp2_with fail
        go_roundw
        case rel => exact ⟨k + 1, by omega, by go_num, hide (by rw [← HE.out]; exact HO3.out), HB3⟩
        case measure => simp [intOf]; omega
    · obtain rfl : k = n := by omega
      have hO2 := hO.out
      rw [List.take_of_length_le (by rw [← HN.out]; exact Nat.le_refl _)] at hO2
      obtain ⟨A3, c3, e3, hrd3⟩ := hO2.rd
      have HRD3 := hide hrd3
      have HE3 := hide e3
      clear hO2 hrd3 e3
      go_wp2_with fail
      go_ret2
      exact ⟨A3, c3, by rw [HE3.out]; rfl, HRD3.out, HB2.out.trans (hbr.out.mono HB2.out.size)⟩
theorem steps_prog (h : MH) (m : Mod) (w : World) (d : MD w w.heap.size h m) (k1 : m.racks.length ≤ h.rc) (k2 : m.machs.length ≤ h.mc) (k3 : m.links.length ≤ h.lc) (ha : Asc w) :
    Calls Tryz.prog 21 #[.agg #[.slice h.s m.sites.length h.sc, .slice h.f m.feeds.length h.fc, .slice h.r m.racks.length h.rc, .slice h.m m.machs.length h.mc, .slice h.l m.links.length h.lc, .slice h.i m.items.length h.ic, .int .i64 m.dark, .int .i64 m.slots, .int .i64 m.reserve, .int .i64 m.failures, .slice h.u m.rules.length h.uc]] w (RdR elSt w (stepsR m).1 (stepsR m).2) := by
  by_cases hc : (choR m).2 = 0
  · exact steps_yes h m w d k1 k2 k3 ha hc
  · exact steps_no h m w d k1 k2 k3 ha hc
end Go.Proofs.YtpggamapmgpjcaaGreatDoor

namespace Go.Proofs.YtpggamapmgpjcaaGreatDoor
open Go Go.RowKit Go.Proofs

def orL (l : List Int) : Int := (l.find? (fun x => decide (x ≠ 0))).getD 0
def cmp3 (a b : MvM) : Int := orL [Lib.compareInt a.1 b.1, Lib.compareInt a.2.1 b.2.1, Lib.compareInt a.2.2 b.2.2]
def cmpS (a b : StM) : Int := orL [Lib.compareInt a.1 b.1, cmp3 a.2 b.2]
def ltS (a b : StM) : Bool := decide (cmpS a b < 0)
theorem orL_cons (x : Int) (l : List Int) : orL (x :: l) = if x = 0 then orL l else x := by
  unfold orL
  by_cases h : x = 0
  · simp [h]
  · simp [h]
theorem orL_nil : orL [] = 0 := rfl
theorem orL_one (x : Int) : orL [x] = x := by
  rw [orL_cons, orL_nil]
  split
  · rename_i h; exact h.symm
  · rfl
theorem ci_lt (x y : Int) : Lib.compareInt x y < 0 ↔ x < y := by
  unfold Lib.compareInt
  split
  · simp_all
  · split <;> simp_all
theorem ci_zero (x y : Int) : Lib.compareInt x y = 0 ↔ x = y := by
  unfold Lib.compareInt
  split
  · simp; omega
  · split
    · simp; omega
    · simp; omega
theorem cmp3_lt (a b : MvM) : cmp3 a b < 0 ↔ (a.1 < b.1 ∨ (a.1 = b.1 ∧ (a.2.1 < b.2.1 ∨ (a.2.1 = b.2.1 ∧ a.2.2 < b.2.2)))) := by
  have e1 := ci_lt a.1 b.1
  have e2 := ci_zero a.1 b.1
  have e3 := ci_lt a.2.1 b.2.1
  have e4 := ci_zero a.2.1 b.2.1
  have e5 := ci_lt a.2.2 b.2.2
  unfold cmp3
  rw [orL_cons, orL_cons, orL_one]
  split
  · split
    · rw [e5]; omega
    · rw [e3]; omega
  · rw [e1]; omega
theorem cmp3_zero (a b : MvM) : cmp3 a b = 0 ↔ a = b := by
  have e2 := ci_zero a.1 b.1
  have e4 := ci_zero a.2.1 b.2.1
  have e6 := ci_zero a.2.2 b.2.2
  have ex : a = b ↔ (a.1 = b.1 ∧ a.2.1 = b.2.1 ∧ a.2.2 = b.2.2) := by
    constructor
    · rintro rfl; exact ⟨rfl, rfl, rfl⟩
    · rintro ⟨h1, h2, h3⟩; exact Prod.ext h1 (Prod.ext h2 h3)
  rw [ex]
  unfold cmp3
  rw [orL_cons, orL_cons, orL_one]
  split
  · split
    · rw [e6]; omega
    · omega
  · omega
theorem ltS_iff (a b : StM) : ltS a b = true ↔ (a.1 < b.1 ∨ (a.1 = b.1 ∧ (a.2.1 < b.2.1 ∨ (a.2.1 = b.2.1 ∧ (a.2.2.1 < b.2.2.1 ∨ (a.2.2.1 = b.2.2.1 ∧ a.2.2.2 < b.2.2.2)))))) := by
  have e1 := ci_lt a.1 b.1
  have e2 := ci_zero a.1 b.1
  have e3 := cmp3_lt a.2 b.2
  unfold ltS cmpS
  rw [orL_cons, orL_one, decide_eq_true_eq]
  split
  · rw [e3]; omega
  · rw [e1]; omega
theorem cmpS_zero (a b : StM) : cmpS a b = 0 ↔ a = b := by
  have e2 := ci_zero a.1 b.1
  have e3 := cmp3_zero a.2 b.2
  have ex : a = b ↔ (a.1 = b.1 ∧ a.2 = b.2) := by
    constructor
    · rintro rfl; exact ⟨rfl, rfl⟩
    · rintro ⟨h1, h2⟩; exact Prod.ext h1 h2
  rw [ex]
  unfold cmpS
  rw [orL_cons, orL_one]
  split
  · rename_i h
    rw [e3]
    have := e2.1 h
    simp [this]
  · rename_i h
    constructor
    · intro h2; exact absurd h2 h
    · intro h2; exact absurd (e2.2 h2.1) h
theorem ltS_no {a b : StM} (h : ltS a b = false) : ¬ (a.1 < b.1 ∨ (a.1 = b.1 ∧ (a.2.1 < b.2.1 ∨ (a.2.1 = b.2.1 ∧ (a.2.2.1 < b.2.2.1 ∨ (a.2.2.1 = b.2.2.1 ∧ a.2.2.2 < b.2.2.2)))))) := fun h2 => by
  rw [(ltS_iff a b).2 h2] at h; cases h
theorem ltS_of_no {a b : StM} (h : ¬ (a.1 < b.1 ∨ (a.1 = b.1 ∧ (a.2.1 < b.2.1 ∨ (a.2.1 = b.2.1 ∧ (a.2.2.1 < b.2.2.1 ∨ (a.2.2.1 = b.2.2.1 ∧ a.2.2.2 < b.2.2.2))))))) : ltS a b = false := by
  cases h2 : ltS a b
  · rfl
  · exact absurd ((ltS_iff a b).1 h2) h
theorem ltS_swo : Go.Sort.SWO ltS where
  irrefl x := ltS_of_no (by omega)
  trans x y z h1 h2 := by rw [ltS_iff] at *; omega
  ntrans x y z h1 h2 := by
    have a1 := ltS_no h1
    have a2 := ltS_no h2
    exact ltS_of_no (by omega)
theorem ltS_tri {a b : StM} (h1 : ltS a b = false) (h2 : ltS b a = false) : a = b := by
  have a1 := ltS_no h1
  have a2 := ltS_no h2
  have e1 : a.1 = b.1 := by omega
  have e2 : a.2.1 = b.2.1 := by omega
  have e3 : a.2.2.1 = b.2.2.1 := by omega
  have e4 : a.2.2.2 = b.2.2.2 := by omega
  exact Prod.ext e1 (Prod.ext e2 (Prod.ext e3 e4))
theorem ltS_ne {a b : StM} (h : ltS a b = true) : a ≠ b := by rintro rfl; rw [ltS_swo.irrefl] at h; cases h
/-- a step put into a list in order, once -/
def insS (x : StM) : List StM → List StM
  | [] => [x]
  | y :: l => if ltS y x then y :: insS x l else if y = x then y :: l else x :: y :: l
def normM (l : List StM) : List StM := l.foldl (fun o x => insS x o) []
abbrev Up (l : List StM) : Prop := l.Pairwise fun a b => ltS a b = true
theorem mem_insS (x y : StM) : ∀ l : List StM, y ∈ insS x l ↔ y = x ∨ y ∈ l
  | [] => by simp [insS]
  | z :: l => by
    unfold insS
    split
    · have := mem_insS x y l
      simp only [List.mem_cons, this]
      constructor
      · rintro (h | h | h) <;> simp [h]
      · rintro (h | h | h) <;> simp [h]
    · split
      · rename_i h; subst h
        simp only [List.mem_cons]
        constructor
        · rintro (h | h) <;> simp [h]
        · rintro (h | h | h) <;> simp [h]
      · simp only [List.mem_cons]
theorem up_insS (x : StM) : ∀ {l : List StM}, Up l → Up (insS x l)
  | [], _ => by simp [insS, Up]
  | z :: l, h => by
    rw [Up, List.pairwise_cons] at h
    unfold insS
    split
    · rename_i hz
      rw [Up, List.pairwise_cons]
      refine ⟨fun b hb => ?_, up_insS x h.2⟩
      rcases (mem_insS x b l).1 hb with rfl | hb
      · exact hz
      · exact h.1 b hb
    · rename_i hz
      split
      · rw [Up, List.pairwise_cons]; exact h
      · rename_i hne
        have hxz : ltS x z = true := by
          cases h2 : ltS x z
          · exact absurd (ltS_tri (by simpa using hz) h2) hne
          · rfl
        rw [Up, List.pairwise_cons, List.pairwise_cons]
        refine ⟨fun b hb => ?_, h⟩
        rcases List.mem_cons.1 hb with rfl | hb
        · exact hxz
        · exact ltS_swo.trans _ _ _ hxz (h.1 b hb)
theorem fold_up (l : List StM) : ∀ {o : List StM}, Up o → Up (l.foldl (fun o x => insS x o) o) ∧ ∀ y, y ∈ l.foldl (fun o x => insS x o) o ↔ y ∈ l ∨ y ∈ o := by
  induction l with
  | nil => intro o h; exact ⟨h, fun y => by simp⟩
  | cons x l ih =>
    intro o h
    have := ih (up_insS x h)
    refine ⟨this.1, fun y => ?_⟩
    rw [List.foldl_cons, this.2 y, mem_insS, List.mem_cons]
    constructor
    · rintro (h | h | h) <;> simp [h]
    · rintro ((h | h) | h) <;> simp [h]
theorem norm_up (l : List StM) : Up (normM l) := (fold_up l (o := []) List.Pairwise.nil).1
theorem mem_norm (l : List StM) (y : StM) : y ∈ normM l ↔ y ∈ l := by rw [normM, (fold_up l (o := []) List.Pairwise.nil).2 y]; simp
/-- two lists in order with the same members are equal -/
theorem up_ext : ∀ {a b : List StM}, Up a → Up b → (∀ y, y ∈ a ↔ y ∈ b) → a = b
  | [], [], _, _, _ => rfl
  | [], y :: b, _, _, h => absurd ((h y).2 (List.mem_cons_self ..)) (by simp)
  | x :: a, [], _, _, h => absurd ((h x).1 (List.mem_cons_self ..)) (by simp)
  | x :: a, y :: b, ha, hb, h => by
    rw [Up, List.pairwise_cons] at ha hb
    have hxy : x = y := by
      rcases List.mem_cons.1 ((h x).1 (List.mem_cons_self ..)) with e | e
      · exact e
      · rcases List.mem_cons.1 ((h y).2 (List.mem_cons_self ..)) with e2 | e2
        · exact e2.symm
        · have h1 := hb.1 x e
          have h2 := ha.1 y e2
          have h3 := ltS_swo.trans _ _ _ h1 h2
          rw [ltS_swo.irrefl] at h3; cases h3
    subst hxy
    have hx1 : x ∉ a := fun e => ltS_ne (ha.1 x e) rfl
    have hx2 : x ∉ b := fun e => ltS_ne (hb.1 x e) rfl
    rw [up_ext ha.2 hb.2 (fun y => by
      have := h y
      simp only [List.mem_cons] at this
      constructor
      · intro hy
        rcases this.1 (.inr hy) with e | e
        · subst e; exact absurd hy hx1
        · exact e
      · intro hy
        rcases this.2 (.inr hy) with e | e
        · subst e; exact absurd hy hx2
        · exact e)]
theorem insS_len (x : StM) : ∀ l : List StM, (insS x l).length ≤ l.length + 1
  | [] => by simp [insS]
  | z :: l => by
    unfold insS
    split
    · have := insS_len x l; simp; omega
    · split <;> simp
theorem norm_len (l : List StM) : (normM l).length ≤ l.length := by
  have : ∀ (l o : List StM), (l.foldl (fun o x => insS x o) o).length ≤ l.length + o.length := by
    intro l
    induction l with
    | nil => intro o; simp
    | cons x l ih => intro o; have := ih (insS x o); have := insS_len x o; simp only [List.foldl_cons, List.length_cons]; omega
  simpa [normM] using this l []
/-- neighbours that are equal, once -/
def compG (x : StM) : List StM → List StM
  | [] => [x]
  | y :: l => if y = x then compG x l else x :: compG y l
def compL : List StM → List StM
  | [] => []
  | x :: l => compG x l
abbrev Asd (l : List StM) : Prop := l.Pairwise fun a b => ltS b a = false
theorem mem_compG (y : StM) : ∀ (l : List StM) (x : StM), y ∈ compG x l ↔ y = x ∨ y ∈ l
  | [], x => by simp [compG]
  | z :: l, x => by
    unfold compG
    split
    · rename_i h; subst h
      rw [mem_compG y l z]
      simp
    · rw [List.mem_cons, mem_compG y l z]
      simp
theorem up_compG : ∀ (l : List StM) (x : StM), Asd (x :: l) → Up (compG x l)
  | [], x, _ => by simp [compG, Up]
  | z :: l, x, h => by
    unfold compG
    rw [Asd, List.pairwise_cons] at h
    split
    · rename_i e; subst e
      exact up_compG l z h.2
    · rename_i hne
      rw [Up, List.pairwise_cons]
      refine ⟨fun b hb => ?_, up_compG l z h.2⟩
      have hxz : ltS x z = true := by
        cases h2 : ltS x z
        · exact absurd (ltS_tri (h.1 z (List.mem_cons_self ..)) h2) hne
        · rfl
      rcases (mem_compG b l z).1 hb with rfl | hb
      · exact hxz
      · have h3 := h.2
        rw [List.pairwise_cons] at h3
        have h4 := h3.1 b hb
        cases h5 : ltS x b
        · have := ltS_swo.ntrans _ _ _ h5 h4
          rw [this] at hxz; cases hxz
        · rfl
/-- what is sorted, each once, is the normal form -/
theorem comp_norm {l s : List StM} (hs : Asd s) (hm : ∀ y, y ∈ s ↔ y ∈ l) : compL s = normM l := by
  cases s with
  | nil =>
    have : normM l = [] := by
      cases hn : normM l with
      | nil => rfl
      | cons y r =>
        have h1 : y ∈ normM l := by rw [hn]; exact List.mem_cons_self ..
        have h2 := (hm y).2 ((mem_norm l y).1 h1)
        simp at h2
    rw [this]; rfl
  | cons x s =>
    refine up_ext (up_compG s x hs) (norm_up l) fun y => ?_
    show y ∈ compG x s ↔ y ∈ normM l
    rw [mem_compG, mem_norm, ← hm y, List.mem_cons]
end Go.Proofs.YtpggamapmgpjcaaGreatDoor
