/- The walks of site.kinds, Domain and Domains. Conditions: lengths that fit memory. -/
import Derived.Test.YtpggamapmgpjcaaGreatDoorK14
import Derived.Test.YtpggamapmgpjcaaGreatDoorK15
import Derived.Laws.EntriesVeiled

namespace Go.Proofs.YtpggamapmgpjcaaGreatDoor
open Go Go.RowKit Go.Proofs

def sk (m : Mod) : Array MapEntry := #[{ key := .int .i64 1, val := .agg #[.int .i64 m.machs.length, .func (.func 187) #[] #[]], born := 0 }, { key := .int .i64 2, val := .agg #[.int .i64 m.racks.length, .func (.func 188) #[] #[]], born := 1 }, { key := .int .i64 3, val := .agg #[.int .i64 m.feeds.length, .func (.func 189) #[] #[]], born := 2 }, { key := .int .i64 4, val := .agg #[.int .i64 m.sites.length, .func (.func 190) #[] #[]], born := 3 }]
def sv (n : Nat) (f : Nat) : Value := .agg #[.int .i64 n, .func (.func f) #[] #[]]
/-- what site.kinds answers: a map that it has made -/
def KindsR (m : Mod) (w : World) (e : Ending) (w' : World) : Prop := ∃ r, e = .returned (.map (some r)) ∧ w'.heap[r]? = some (.map (sk m) 4) ∧ Below w.heap.size w w'
theorem zero_skind (w : World) : (zeroValue 192).run Tryz.prog w = .ok (.agg #[.int .i64 0, .nilFunc]) w := by kernel_rfl
set_option maxHeartbeats 1000000 in
theorem kinds_prog (h : MH) (m : Mod) (w : World) (_l0 : m.machs.length ≤ 9223372036854775807) (_l1 : m.racks.length ≤ 9223372036854775807) (_l2 : m.feeds.length ≤ 9223372036854775807) (_l3 : m.sites.length ≤ 9223372036854775807) :
    Calls Tryz.prog 175 #[.agg #[.slice h.s m.sites.length h.sc, .slice h.f m.feeds.length h.fc, .slice h.r m.racks.length h.rc, .slice h.m m.machs.length h.mc, .slice h.l m.links.length h.lc, .slice h.i m.items.length h.ic, .int .i64 m.dark, .int .i64 m.slots, .int .i64 m.reserve, .int .i64 m.failures, .slice h.u m.rules.length h.uc]] w (KindsR m w) := by
  have HB := hide (((Below.refl w.heap.size w).alloc (Nat.le_refl _) (.cells #[.slice h.s m.sites.length h.sc, .slice h.f m.feeds.length h.fc, .slice h.r m.racks.length h.rc, .slice h.m m.machs.length h.mc, .slice h.l m.links.length h.lc, .slice h.i m.items.length h.ic, .int .i64 m.dark, .int .i64 m.slots, .int .i64 m.reserve, .int .i64 m.failures, .slice h.u m.rules.length h.uc] 29)).alloc (by simp) (.map (sk m) 4))
  have HE := hide (show (w.alloc (.cells #[.slice h.s m.sites.length h.sc, .slice h.f m.feeds.length h.fc, .slice h.r m.racks.length h.rc, .slice h.m m.machs.length h.mc, .slice h.l m.links.length h.lc, .slice h.i m.items.length h.ic, .int .i64 m.dark, .int .i64 m.slots, .int .i64 m.reserve, .int .i64 m.failures, .slice h.u m.rules.length h.uc] 29)).heap.size = w.heap.size + 1 by simp)
  have hmm := @run_makeMap Tryz.prog
  go_enter Tryz.func175, Tryz.ntmps175
  go_wp2_with (first
    | go_loud (refine wpList_insert_new (w0 := w.alloc (.cells #[.slice h.s m.sites.length h.sc, .slice h.f m.feeds.length h.fc, .slice h.r m.racks.length h.rc, .slice h.m m.machs.length h.mc, .slice h.l m.links.length h.lc, .slice h.i m.items.length h.ic, .int .i64 m.dark, .int .i64 m.slots, .int .i64 m.reserve, .int .i64 m.failures, .slice h.u m.rules.length h.uc] 29)) (es := #[]) (c := 0) (vv := .agg #[.int .i64 m.machs.length, .func (.func 187) #[] #[]]) rfl rfl _ _ _ _ rfl Tryz.underlying194 Tryz.underlying3 rfl rfl HE.out.symm rfl rfl rfl ?_)
    | go_loud (refine wpList_insert_new (w0 := w.alloc (.cells #[.slice h.s m.sites.length h.sc, .slice h.f m.feeds.length h.fc, .slice h.r m.racks.length h.rc, .slice h.m m.machs.length h.mc, .slice h.l m.links.length h.lc, .slice h.i m.items.length h.ic, .int .i64 m.dark, .int .i64 m.slots, .int .i64 m.reserve, .int .i64 m.failures, .slice h.u m.rules.length h.uc] 29)) (c := 1) (vv := .agg #[.int .i64 m.racks.length, .func (.func 188) #[] #[]]) rfl rfl _ _ _ _ rfl Tryz.underlying194 Tryz.underlying3 rfl rfl HE.out.symm rfl rfl rfl ?_)
    | go_loud (refine wpList_insert_new (w0 := w.alloc (.cells #[.slice h.s m.sites.length h.sc, .slice h.f m.feeds.length h.fc, .slice h.r m.racks.length h.rc, .slice h.m m.machs.length h.mc, .slice h.l m.links.length h.lc, .slice h.i m.items.length h.ic, .int .i64 m.dark, .int .i64 m.slots, .int .i64 m.reserve, .int .i64 m.failures, .slice h.u m.rules.length h.uc] 29)) (c := 2) (vv := .agg #[.int .i64 m.feeds.length, .func (.func 189) #[] #[]]) rfl rfl _ _ _ _ rfl Tryz.underlying194 Tryz.underlying3 rfl rfl HE.out.symm rfl rfl rfl ?_)
    | go_loud (refine wpList_insert_new (w0 := w.alloc (.cells #[.slice h.s m.sites.length h.sc, .slice h.f m.feeds.length h.fc, .slice h.r m.racks.length h.rc, .slice h.m m.machs.length h.mc, .slice h.l m.links.length h.lc, .slice h.i m.items.length h.ic, .int .i64 m.dark, .int .i64 m.slots, .int .i64 m.reserve, .int .i64 m.failures, .slice h.u m.rules.length h.uc] 29)) (c := 3) (vv := .agg #[.int .i64 m.sites.length, .func (.func 190) #[] #[]]) rfl rfl _ _ _ _ rfl Tryz.underlying194 Tryz.underlying3 rfl rfl HE.out.symm rfl rfl rfl ?_))
  go_ret
  exact ⟨w.heap.size + 1, rfl, by have := heap_alloc_new (w.alloc (.cells #[.slice h.s m.sites.length h.sc, .slice h.f m.feeds.length h.fc, .slice h.r m.racks.length h.rc, .slice h.m m.machs.length h.mc, .slice h.l m.links.length h.lc, .slice h.i m.items.length h.ic, .int .i64 m.dark, .int .i64 m.slots, .int .i64 m.reserve, .int .i64 m.failures, .slice h.u m.rules.length h.uc] 29)) (.map (sk m) 4); rw [HE.out] at this; exact this, HB.out⟩
theorem sk_find1 (m : Mod) : Instr.findNow (.int .i64) (.int .i64 1) (sk m).toList 0 = some (some (0, .agg #[.int .i64 m.machs.length, .func (.func 187) #[] #[]])) := rfl
theorem sk_find2 (m : Mod) : Instr.findNow (.int .i64) (.int .i64 2) (sk m).toList 0 = some (some (1, .agg #[.int .i64 m.racks.length, .func (.func 188) #[] #[]])) := rfl
theorem sk_find3 (m : Mod) : Instr.findNow (.int .i64) (.int .i64 3) (sk m).toList 0 = some (some (2, .agg #[.int .i64 m.feeds.length, .func (.func 189) #[] #[]])) := rfl
theorem sk_find4 (m : Mod) : Instr.findNow (.int .i64) (.int .i64 4) (sk m).toList 0 = some (some (3, .agg #[.int .i64 m.sites.length, .func (.func 190) #[] #[]])) := rfl
theorem sk_none (m : Mod) {k : Int} (h : ¬ (k = 1 ∨ k = 2 ∨ k = 3 ∨ k = 4)) : Instr.findNow (.int .i64) (.int .i64 k) (sk m).toList 0 = some none := by
  refine findNow_none _ _ fun e he => ?_
  simp [sk] at he
  rcases he with rfl | rfl | rfl | rfl
  · exact ⟨1, rfl, fun e => h (.inl e)⟩
  · exact ⟨2, rfl, fun e => h (.inr (.inl e))⟩
  · exact ⟨3, rfl, fun e => h (.inr (.inr (.inl e)))⟩
  · exact ⟨4, rfl, fun e => h (.inr (.inr (.inr e)))⟩
theorem domsI_other (m : Mod) {k : Int} (h : ¬ (k = 1 ∨ k = 2 ∨ k = 3 ∨ k = 4)) : domsI m k = 0 := by
  unfold domsI
  repeat' split
  all_goals (first | rfl | (exfalso; apply h; omega))
theorem field_skind (n : Int) (f : Value) (W : World) : (Instr.field 192 (.agg #[.int .i64 n, f]) 0).run Tryz.prog W = .ok (.int .i64 n) W := by kernel_rfl
/-- Domain's answer -/
def DomR (m : Mod) (by_ mc : Int) (w : World) (e : Ending) (w' : World) : Prop := e = .returned (.int .i64 (domI m by_ mc)) ∧ Below w.heap.size w w'
theorem domI_nomach {m : Mod} {by_ mc : Int} (h : exI mc m.machs.length = false) : domI m by_ mc = 0 := by simp [domI, h]
theorem domI_other {m : Mod} {by_ mc : Int} (h : ¬ (by_ = 1 ∨ by_ = 2 ∨ by_ = 3 ∨ by_ = 4)) : domI m by_ mc = 0 := by
  have : exI (domN m by_ mc) (domsI m by_) = false := by rw [domsI_other m h]; simp [exI]; omega
  simp [domI, this]
theorem domN_norack {m : Mod} {by_ : Int} {a : Nat} (ha : a < m.machs.length) (hb : by_ ≠ 1) (hr : exI m.machs[a].rack m.racks.length = false) : domI m by_ ((a : Int) + 1) = 0 := by
  have h1 : domN m by_ ((a : Int) + 1) = 0 := by
    unfold domN
    rw [if_neg hb]
    simp [ha, hr]
  simp [domI, h1, exI]
set_option maxRecDepth 100000 in
set_option maxHeartbeats 2000000 in
theorem domain_other (h : MH) (m : Mod) (by_ mc : Int) (w : World) (l0 : m.machs.length ≤ 9223372036854775807) (l1 : m.racks.length ≤ 9223372036854775807) (l2 : m.feeds.length ≤ 9223372036854775807) (l3 : m.sites.length ≤ 9223372036854775807) (hk : ¬ (by_ = 1 ∨ by_ = 2 ∨ by_ = 3 ∨ by_ = 4)) :
    Calls Tryz.prog 147 #[.agg #[.slice h.s m.sites.length h.sc, .slice h.f m.feeds.length h.fc, .slice h.r m.racks.length h.rc, .slice h.m m.machs.length h.mc, .slice h.l m.links.length h.lc, .slice h.i m.items.length h.ic, .int .i64 m.dark, .int .i64 m.slots, .int .i64 m.reserve, .int .i64 m.failures, .slice h.u m.rules.length h.uc], .int .i64 by_, .int .i64 mc] w (DomR m by_ mc w) := by
  have HB := hide (((Below.refl w.heap.size w).alloc (Nat.le_refl _) (.cells #[.slice h.s m.sites.length h.sc, .slice h.f m.feeds.length h.fc, .slice h.r m.racks.length h.rc, .slice h.m m.machs.length h.mc, .slice h.l m.links.length h.lc, .slice h.i m.items.length h.ic, .int .i64 m.dark, .int .i64 m.slots, .int .i64 m.reserve, .int .i64 m.failures, .slice h.u m.rules.length h.uc] 29)))
  have HM0 := hide (Blk.new w 29 #[.slice h.s m.sites.length h.sc, .slice h.f m.feeds.length h.fc, .slice h.r m.racks.length h.rc, .slice h.m m.machs.length h.mc, .slice h.l m.links.length h.lc, .slice h.i m.items.length h.ic, .int .i64 m.dark, .int .i64 m.slots, .int .i64 m.reserve, .int .i64 m.failures, .slice h.u m.rules.length h.uc])
  have HK := hide (kinds_prog h m (w.alloc (.cells #[.slice h.s m.sites.length h.sc, .slice h.f m.feeds.length h.fc, .slice h.r m.racks.length h.rc, .slice h.m m.machs.length h.mc, .slice h.l m.links.length h.lc, .slice h.i m.items.length h.ic, .int .i64 m.dark, .int .i64 m.slots, .int .i64 m.reserve, .int .i64 m.failures, .slice h.u m.rules.length h.uc] 29)) l0 l1 l2 l3)
  have HL := hide (fun (w : World) (r : Nat) (hg : w.heap[r]? = some (.map (sk m) 4)) => run_lookup_int (b := false) (v := .agg #[.int .i64 0, .nilFunc]) Tryz.underlying194 Tryz.underlying3 (zero_skind w) hg (sk_none m hk) rfl)
  have HV := hide (domI_other (m := m) (mc := mc) hk)
  clear hk
  go_enter Tryz.func147, Tryz.ntmps147
  go_wp2_with (first
    | (go_at_call 175; refine HK.out.mono ?_; rintro e w1 ⟨r, rfl, hm, hb⟩; have hlk := HL.out w1 r hm; have HB1 := hide (HB.out.trans (hb.mono HB.out.size)); have hM1 := HM0.out.below hb (by simp); obtain ⟨a0, a1, a2, a3, a4, a5, a6, a7, a8, a9, a10⟩ := MB.cells hM1; have al := hM1.lt; clear hM1 hm hb)
    | (go_at_call 66; refine (exists_prog _ _ _).mono ?_; rintro e w2 ⟨rfl, rfl⟩))
  go_ret
  exact ⟨by rw [HV.out]; rfl, HB1.out.alloc HB1.out.size _⟩
set_option maxRecDepth 100000 in
set_option maxHeartbeats 2000000 in
theorem domain1_nomach (h : MH) (m : Mod) (mc : Int) (w : World) (l0 : m.machs.length ≤ 9223372036854775807) (l1 : m.racks.length ≤ 9223372036854775807) (l2 : m.feeds.length ≤ 9223372036854775807) (l3 : m.sites.length ≤ 9223372036854775807) (hx : exI mc m.machs.length = false) :
    Calls Tryz.prog 147 #[.agg #[.slice h.s m.sites.length h.sc, .slice h.f m.feeds.length h.fc, .slice h.r m.racks.length h.rc, .slice h.m m.machs.length h.mc, .slice h.l m.links.length h.lc, .slice h.i m.items.length h.ic, .int .i64 m.dark, .int .i64 m.slots, .int .i64 m.reserve, .int .i64 m.failures, .slice h.u m.rules.length h.uc], .int .i64 1, .int .i64 mc] w (DomR m 1 mc w) := by
  have HB := hide (((Below.refl w.heap.size w).alloc (Nat.le_refl _) (.cells #[.slice h.s m.sites.length h.sc, .slice h.f m.feeds.length h.fc, .slice h.r m.racks.length h.rc, .slice h.m m.machs.length h.mc, .slice h.l m.links.length h.lc, .slice h.i m.items.length h.ic, .int .i64 m.dark, .int .i64 m.slots, .int .i64 m.reserve, .int .i64 m.failures, .slice h.u m.rules.length h.uc] 29)))
  have HM0 := hide (Blk.new w 29 #[.slice h.s m.sites.length h.sc, .slice h.f m.feeds.length h.fc, .slice h.r m.racks.length h.rc, .slice h.m m.machs.length h.mc, .slice h.l m.links.length h.lc, .slice h.i m.items.length h.ic, .int .i64 m.dark, .int .i64 m.slots, .int .i64 m.reserve, .int .i64 m.failures, .slice h.u m.rules.length h.uc])
  have HK := hide (kinds_prog h m (w.alloc (.cells #[.slice h.s m.sites.length h.sc, .slice h.f m.feeds.length h.fc, .slice h.r m.racks.length h.rc, .slice h.m m.machs.length h.mc, .slice h.l m.links.length h.lc, .slice h.i m.items.length h.ic, .int .i64 m.dark, .int .i64 m.slots, .int .i64 m.reserve, .int .i64 m.failures, .slice h.u m.rules.length h.uc] 29)) l0 l1 l2 l3)
  have HL := hide (fun (w : World) (r : Nat) (hg : w.heap[r]? = some (.map (sk m) 4)) => run_lookup_int (b := true) (v := .agg #[.int .i64 m.machs.length, .func (.func 187) #[] #[]]) Tryz.underlying194 Tryz.underlying3 (zero_skind w) hg (sk_find1 m) rfl)
  have HV := hide (domI_nomach (m := m) (by_ := 1) hx)
  go_enter Tryz.func147, Tryz.ntmps147
  go_wp2_with (first
    | (go_at_call 175; refine HK.out.mono ?_; rintro e w1 ⟨r, rfl, hm, hb⟩; have hlk := HL.out w1 r hm; have HB1 := hide (HB.out.trans (hb.mono HB.out.size)); have hM1 := HM0.out.below hb (by simp); obtain ⟨a0, a1, a2, a3, a4, a5, a6, a7, a8, a9, a10⟩ := MB.cells hM1; have al := hM1.lt; clear hM1 hm hb)
    | (go_at_call 66; refine (exists_prog _ _ _).mono ?_; rintro e w2 ⟨rfl, rfl⟩))
  go_ret
  exact ⟨by rw [HV.out]; rfl, HB1.out.alloc HB1.out.size _⟩
set_option maxHeartbeats 1000000 in
theorem of1_prog (mc rk : Int) (x : RackM) (w : World) : Calls Tryz.prog 187 #[.int .i64 mc, .agg #[.string x.name, .int .i64 x.site, .int .i64 x.feed], .int .i64 rk] w (fun e w' => e = .returned (.int .i64 mc) ∧ Below w.heap.size w w') := by
  have HB := hide ((Below.refl w.heap.size w).alloc (Nat.le_refl _) (.cells #[.string x.name, .int .i64 x.site, .int .i64 x.feed] 84))
  go_enter Tryz.func187, Tryz.ntmps187
  go_wp2_with fail
  go_ret
  exact ⟨rfl, HB.out⟩
set_option maxRecDepth 100000 in
set_option maxHeartbeats 2000000 in
theorem domain2_nomach (h : MH) (m : Mod) (mc : Int) (w : World) (l0 : m.machs.length ≤ 9223372036854775807) (l1 : m.racks.length ≤ 9223372036854775807) (l2 : m.feeds.length ≤ 9223372036854775807) (l3 : m.sites.length ≤ 9223372036854775807) (hx : exI mc m.machs.length = false) :
    Calls Tryz.prog 147 #[.agg #[.slice h.s m.sites.length h.sc, .slice h.f m.feeds.length h.fc, .slice h.r m.racks.length h.rc, .slice h.m m.machs.length h.mc, .slice h.l m.links.length h.lc, .slice h.i m.items.length h.ic, .int .i64 m.dark, .int .i64 m.slots, .int .i64 m.reserve, .int .i64 m.failures, .slice h.u m.rules.length h.uc], .int .i64 2, .int .i64 mc] w (DomR m 2 mc w) := by
  have HB := hide (((Below.refl w.heap.size w).alloc (Nat.le_refl _) (.cells #[.slice h.s m.sites.length h.sc, .slice h.f m.feeds.length h.fc, .slice h.r m.racks.length h.rc, .slice h.m m.machs.length h.mc, .slice h.l m.links.length h.lc, .slice h.i m.items.length h.ic, .int .i64 m.dark, .int .i64 m.slots, .int .i64 m.reserve, .int .i64 m.failures, .slice h.u m.rules.length h.uc] 29)))
  have HM0 := hide (Blk.new w 29 #[.slice h.s m.sites.length h.sc, .slice h.f m.feeds.length h.fc, .slice h.r m.racks.length h.rc, .slice h.m m.machs.length h.mc, .slice h.l m.links.length h.lc, .slice h.i m.items.length h.ic, .int .i64 m.dark, .int .i64 m.slots, .int .i64 m.reserve, .int .i64 m.failures, .slice h.u m.rules.length h.uc])
  have HK := hide (kinds_prog h m (w.alloc (.cells #[.slice h.s m.sites.length h.sc, .slice h.f m.feeds.length h.fc, .slice h.r m.racks.length h.rc, .slice h.m m.machs.length h.mc, .slice h.l m.links.length h.lc, .slice h.i m.items.length h.ic, .int .i64 m.dark, .int .i64 m.slots, .int .i64 m.reserve, .int .i64 m.failures, .slice h.u m.rules.length h.uc] 29)) l0 l1 l2 l3)
  have HL := hide (fun (w : World) (r : Nat) (hg : w.heap[r]? = some (.map (sk m) 4)) => run_lookup_int (b := true) (v := .agg #[.int .i64 m.racks.length, .func (.func 188) #[] #[]]) Tryz.underlying194 Tryz.underlying3 (zero_skind w) hg (sk_find2 m) rfl)
  have HV := hide (domI_nomach (m := m) (by_ := 2) hx)
  go_enter Tryz.func147, Tryz.ntmps147
  go_wp2_with (first
    | (go_at_call 175; refine HK.out.mono ?_; rintro e w1 ⟨r, rfl, hm, hb⟩; have hlk := HL.out w1 r hm; have HB1 := hide (HB.out.trans (hb.mono HB.out.size)); have hM1 := HM0.out.below hb (by simp); obtain ⟨a0, a1, a2, a3, a4, a5, a6, a7, a8, a9, a10⟩ := MB.cells hM1; have al := hM1.lt; clear hM1 hm hb)
    | (go_at_call 66; refine (exists_prog _ _ _).mono ?_; rintro e w2 ⟨rfl, rfl⟩))
  go_ret
  exact ⟨by rw [HV.out]; rfl, HB1.out.alloc HB1.out.size _⟩
set_option maxHeartbeats 1000000 in
theorem of2_prog (mc rk : Int) (x : RackM) (w : World) : Calls Tryz.prog 188 #[.int .i64 mc, .agg #[.string x.name, .int .i64 x.site, .int .i64 x.feed], .int .i64 rk] w (fun e w' => e = .returned (.int .i64 rk) ∧ Below w.heap.size w w') := by
  have HB := hide ((Below.refl w.heap.size w).alloc (Nat.le_refl _) (.cells #[.string x.name, .int .i64 x.site, .int .i64 x.feed] 84))
  go_enter Tryz.func188, Tryz.ntmps188
  go_wp2_with fail
  go_ret
  exact ⟨rfl, HB.out⟩
set_option maxRecDepth 100000 in
set_option maxHeartbeats 2000000 in
theorem domain2_norack (h : MH) (m : Mod) (a : Nat) (w : World) (d : MD w w.heap.size h m) (ha : a < m.machs.length) (hr : exI m.machs[a].rack m.racks.length = false) :
    Calls Tryz.prog 147 #[.agg #[.slice h.s m.sites.length h.sc, .slice h.f m.feeds.length h.fc, .slice h.r m.racks.length h.rc, .slice h.m m.machs.length h.mc, .slice h.l m.links.length h.lc, .slice h.i m.items.length h.ic, .int .i64 m.dark, .int .i64 m.slots, .int .i64 m.reserve, .int .i64 m.failures, .slice h.u m.rules.length h.uc], .int .i64 2, .int .i64 ((a : Int) + 1)] w (DomR m 2 ((a : Int) + 1) w) := by
  have l0 := d.ml
  have l1 := d.rl
  have l2 := d.fl
  have l3 := d.sl
  have HB := hide (((Below.refl w.heap.size w).alloc (Nat.le_refl _) (.cells #[.slice h.s m.sites.length h.sc, .slice h.f m.feeds.length h.fc, .slice h.r m.racks.length h.rc, .slice h.m m.machs.length h.mc, .slice h.l m.links.length h.lc, .slice h.i m.items.length h.ic, .int .i64 m.dark, .int .i64 m.slots, .int .i64 m.reserve, .int .i64 m.failures, .slice h.u m.rules.length h.uc] 29)))
  have HM0 := hide (Blk.new w 29 #[.slice h.s m.sites.length h.sc, .slice h.f m.feeds.length h.fc, .slice h.r m.racks.length h.rc, .slice h.m m.machs.length h.mc, .slice h.l m.links.length h.lc, .slice h.i m.items.length h.ic, .int .i64 m.dark, .int .i64 m.slots, .int .i64 m.reserve, .int .i64 m.failures, .slice h.u m.rules.length h.uc])
  have HK := hide (kinds_prog h m (w.alloc (.cells #[.slice h.s m.sites.length h.sc, .slice h.f m.feeds.length h.fc, .slice h.r m.racks.length h.rc, .slice h.m m.machs.length h.mc, .slice h.l m.links.length h.lc, .slice h.i m.items.length h.ic, .int .i64 m.dark, .int .i64 m.slots, .int .i64 m.reserve, .int .i64 m.failures, .slice h.u m.rules.length h.uc] 29)) l0 l1 l2 l3)
  have HL := hide (fun (w : World) (r : Nat) (hg : w.heap[r]? = some (.map (sk m) 4)) => run_lookup_int (b := true) (v := .agg #[.int .i64 m.racks.length, .func (.func 188) #[] #[]]) Tryz.underlying194 Tryz.underlying3 (zero_skind w) hg (sk_find2 m) rfl)
  obtain ⟨b, off, hA, hb0, x0, x1, x2, hz⟩ := d.dM.mach ha
  have HA := hide hA
  rw [hA] at HB HK HM0 ⊢
  have hx : exI ((a : Int) + 1) m.machs.length = true := by simp [exI]; omega
  have haI : (a : Int) < (m.machs.length : Int) := by omega
  have hb1 : b < w.heap.size := hb0
  have HV := hide (domN_norack (by_ := 2) ha (by decide) hr)
  clear d hA hb0 x2 hz x0
  go_enter Tryz.func147, Tryz.ntmps147
  go_wp2_with (first
    | (go_at_call 175; refine HK.out.mono ?_; rintro e w1 ⟨r, rfl, hm, hb⟩; have hlk := HL.out w1 r hm; have HB1 := hide (HB.out.trans (hb.mono HB.out.size)); have hM1 := HM0.out.below hb (by simp); rw [← HA.out] at hM1; obtain ⟨a0, a1, a2, a3, a4, a5, a6, a7, a8, a9, a10⟩ := MB.cells hM1; have al := hM1.lt; rw [HA.out] at a3; have y1 := ((HB1.out.cell (p := ⟨b, off + a * 3 + 1, none⟩) hb1)).trans x1; have hbl := Nat.lt_of_lt_of_le hb1 HB1.out.size; clear hM1 hm hb)
    | (go_at_call 66; refine (exists_prog _ _ _).mono ?_; rintro e w2 ⟨rfl, rfl⟩))
  go_ret
  exact ⟨by rw [HV.out]; rfl, (HB1.out.alloc HB1.out.size _).alloc (by have := HB1.out.size; simp; omega) _⟩
set_option maxRecDepth 100000 in
set_option maxHeartbeats 2000000 in
theorem domain3_nomach (h : MH) (m : Mod) (mc : Int) (w : World) (l0 : m.machs.length ≤ 9223372036854775807) (l1 : m.racks.length ≤ 9223372036854775807) (l2 : m.feeds.length ≤ 9223372036854775807) (l3 : m.sites.length ≤ 9223372036854775807) (hx : exI mc m.machs.length = false) :
    Calls Tryz.prog 147 #[.agg #[.slice h.s m.sites.length h.sc, .slice h.f m.feeds.length h.fc, .slice h.r m.racks.length h.rc, .slice h.m m.machs.length h.mc, .slice h.l m.links.length h.lc, .slice h.i m.items.length h.ic, .int .i64 m.dark, .int .i64 m.slots, .int .i64 m.reserve, .int .i64 m.failures, .slice h.u m.rules.length h.uc], .int .i64 3, .int .i64 mc] w (DomR m 3 mc w) := by
  have HB := hide (((Below.refl w.heap.size w).alloc (Nat.le_refl _) (.cells #[.slice h.s m.sites.length h.sc, .slice h.f m.feeds.length h.fc, .slice h.r m.racks.length h.rc, .slice h.m m.machs.length h.mc, .slice h.l m.links.length h.lc, .slice h.i m.items.length h.ic, .int .i64 m.dark, .int .i64 m.slots, .int .i64 m.reserve, .int .i64 m.failures, .slice h.u m.rules.length h.uc] 29)))
  have HM0 := hide (Blk.new w 29 #[.slice h.s m.sites.length h.sc, .slice h.f m.feeds.length h.fc, .slice h.r m.racks.length h.rc, .slice h.m m.machs.length h.mc, .slice h.l m.links.length h.lc, .slice h.i m.items.length h.ic, .int .i64 m.dark, .int .i64 m.slots, .int .i64 m.reserve, .int .i64 m.failures, .slice h.u m.rules.length h.uc])
  have HK := hide (kinds_prog h m (w.alloc (.cells #[.slice h.s m.sites.length h.sc, .slice h.f m.feeds.length h.fc, .slice h.r m.racks.length h.rc, .slice h.m m.machs.length h.mc, .slice h.l m.links.length h.lc, .slice h.i m.items.length h.ic, .int .i64 m.dark, .int .i64 m.slots, .int .i64 m.reserve, .int .i64 m.failures, .slice h.u m.rules.length h.uc] 29)) l0 l1 l2 l3)
  have HL := hide (fun (w : World) (r : Nat) (hg : w.heap[r]? = some (.map (sk m) 4)) => run_lookup_int (b := true) (v := .agg #[.int .i64 m.feeds.length, .func (.func 189) #[] #[]]) Tryz.underlying194 Tryz.underlying3 (zero_skind w) hg (sk_find3 m) rfl)
  have HV := hide (domI_nomach (m := m) (by_ := 3) hx)
  go_enter Tryz.func147, Tryz.ntmps147
  go_wp2_with (first
    | (go_at_call 175; refine HK.out.mono ?_; rintro e w1 ⟨r, rfl, hm, hb⟩; have hlk := HL.out w1 r hm; have HB1 := hide (HB.out.trans (hb.mono HB.out.size)); have hM1 := HM0.out.below hb (by simp); obtain ⟨a0, a1, a2, a3, a4, a5, a6, a7, a8, a9, a10⟩ := MB.cells hM1; have al := hM1.lt; clear hM1 hm hb)
    | (go_at_call 66; refine (exists_prog _ _ _).mono ?_; rintro e w2 ⟨rfl, rfl⟩))
  go_ret
  exact ⟨by rw [HV.out]; rfl, HB1.out.alloc HB1.out.size _⟩
set_option maxHeartbeats 1000000 in
theorem of3_prog (mc rk : Int) (x : RackM) (w : World) : Calls Tryz.prog 189 #[.int .i64 mc, .agg #[.string x.name, .int .i64 x.site, .int .i64 x.feed], .int .i64 rk] w (fun e w' => e = .returned (.int .i64 x.feed) ∧ Below w.heap.size w w') := by
  have HB := hide ((Below.refl w.heap.size w).alloc (Nat.le_refl _) (.cells #[.string x.name, .int .i64 x.site, .int .i64 x.feed] 84))
  go_enter Tryz.func189, Tryz.ntmps189
  go_wp2_with fail
  go_ret
  exact ⟨rfl, HB.out⟩
set_option maxRecDepth 100000 in
set_option maxHeartbeats 2000000 in
theorem domain3_norack (h : MH) (m : Mod) (a : Nat) (w : World) (d : MD w w.heap.size h m) (ha : a < m.machs.length) (hr : exI m.machs[a].rack m.racks.length = false) :
    Calls Tryz.prog 147 #[.agg #[.slice h.s m.sites.length h.sc, .slice h.f m.feeds.length h.fc, .slice h.r m.racks.length h.rc, .slice h.m m.machs.length h.mc, .slice h.l m.links.length h.lc, .slice h.i m.items.length h.ic, .int .i64 m.dark, .int .i64 m.slots, .int .i64 m.reserve, .int .i64 m.failures, .slice h.u m.rules.length h.uc], .int .i64 3, .int .i64 ((a : Int) + 1)] w (DomR m 3 ((a : Int) + 1) w) := by
  have l0 := d.ml
  have l1 := d.rl
  have l2 := d.fl
  have l3 := d.sl
  have HB := hide (((Below.refl w.heap.size w).alloc (Nat.le_refl _) (.cells #[.slice h.s m.sites.length h.sc, .slice h.f m.feeds.length h.fc, .slice h.r m.racks.length h.rc, .slice h.m m.machs.length h.mc, .slice h.l m.links.length h.lc, .slice h.i m.items.length h.ic, .int .i64 m.dark, .int .i64 m.slots, .int .i64 m.reserve, .int .i64 m.failures, .slice h.u m.rules.length h.uc] 29)))
  have HM0 := hide (Blk.new w 29 #[.slice h.s m.sites.length h.sc, .slice h.f m.feeds.length h.fc, .slice h.r m.racks.length h.rc, .slice h.m m.machs.length h.mc, .slice h.l m.links.length h.lc, .slice h.i m.items.length h.ic, .int .i64 m.dark, .int .i64 m.slots, .int .i64 m.reserve, .int .i64 m.failures, .slice h.u m.rules.length h.uc])
  have HK := hide (kinds_prog h m (w.alloc (.cells #[.slice h.s m.sites.length h.sc, .slice h.f m.feeds.length h.fc, .slice h.r m.racks.length h.rc, .slice h.m m.machs.length h.mc, .slice h.l m.links.length h.lc, .slice h.i m.items.length h.ic, .int .i64 m.dark, .int .i64 m.slots, .int .i64 m.reserve, .int .i64 m.failures, .slice h.u m.rules.length h.uc] 29)) l0 l1 l2 l3)
  have HL := hide (fun (w : World) (r : Nat) (hg : w.heap[r]? = some (.map (sk m) 4)) => run_lookup_int (b := true) (v := .agg #[.int .i64 m.feeds.length, .func (.func 189) #[] #[]]) Tryz.underlying194 Tryz.underlying3 (zero_skind w) hg (sk_find3 m) rfl)
  obtain ⟨b, off, hA, hb0, x0, x1, x2, hz⟩ := d.dM.mach ha
  have HA := hide hA
  rw [hA] at HB HK HM0 ⊢
  have hx : exI ((a : Int) + 1) m.machs.length = true := by simp [exI]; omega
  have haI : (a : Int) < (m.machs.length : Int) := by omega
  have hb1 : b < w.heap.size := hb0
  have HV := hide (domN_norack (by_ := 3) ha (by decide) hr)
  clear d hA hb0 x2 hz x0
  go_enter Tryz.func147, Tryz.ntmps147
  go_wp2_with (first
    | (go_at_call 175; refine HK.out.mono ?_; rintro e w1 ⟨r, rfl, hm, hb⟩; have hlk := HL.out w1 r hm; have HB1 := hide (HB.out.trans (hb.mono HB.out.size)); have hM1 := HM0.out.below hb (by simp); rw [← HA.out] at hM1; obtain ⟨a0, a1, a2, a3, a4, a5, a6, a7, a8, a9, a10⟩ := MB.cells hM1; have al := hM1.lt; rw [HA.out] at a3; have y1 := ((HB1.out.cell (p := ⟨b, off + a * 3 + 1, none⟩) hb1)).trans x1; have hbl := Nat.lt_of_lt_of_le hb1 HB1.out.size; clear hM1 hm hb)
    | (go_at_call 66; refine (exists_prog _ _ _).mono ?_; rintro e w2 ⟨rfl, rfl⟩))
  go_ret
  exact ⟨by rw [HV.out]; rfl, (HB1.out.alloc HB1.out.size _).alloc (by have := HB1.out.size; simp; omega) _⟩
set_option maxRecDepth 100000 in
set_option maxHeartbeats 2000000 in
theorem domain4_nomach (h : MH) (m : Mod) (mc : Int) (w : World) (l0 : m.machs.length ≤ 9223372036854775807) (l1 : m.racks.length ≤ 9223372036854775807) (l2 : m.feeds.length ≤ 9223372036854775807) (l3 : m.sites.length ≤ 9223372036854775807) (hx : exI mc m.machs.length = false) :
    Calls Tryz.prog 147 #[.agg #[.slice h.s m.sites.length h.sc, .slice h.f m.feeds.length h.fc, .slice h.r m.racks.length h.rc, .slice h.m m.machs.length h.mc, .slice h.l m.links.length h.lc, .slice h.i m.items.length h.ic, .int .i64 m.dark, .int .i64 m.slots, .int .i64 m.reserve, .int .i64 m.failures, .slice h.u m.rules.length h.uc], .int .i64 4, .int .i64 mc] w (DomR m 4 mc w) := by
  have HB := hide (((Below.refl w.heap.size w).alloc (Nat.le_refl _) (.cells #[.slice h.s m.sites.length h.sc, .slice h.f m.feeds.length h.fc, .slice h.r m.racks.length h.rc, .slice h.m m.machs.length h.mc, .slice h.l m.links.length h.lc, .slice h.i m.items.length h.ic, .int .i64 m.dark, .int .i64 m.slots, .int .i64 m.reserve, .int .i64 m.failures, .slice h.u m.rules.length h.uc] 29)))
  have HM0 := hide (Blk.new w 29 #[.slice h.s m.sites.length h.sc, .slice h.f m.feeds.length h.fc, .slice h.r m.racks.length h.rc, .slice h.m m.machs.length h.mc, .slice h.l m.links.length h.lc, .slice h.i m.items.length h.ic, .int .i64 m.dark, .int .i64 m.slots, .int .i64 m.reserve, .int .i64 m.failures, .slice h.u m.rules.length h.uc])
  have HK := hide (kinds_prog h m (w.alloc (.cells #[.slice h.s m.sites.length h.sc, .slice h.f m.feeds.length h.fc, .slice h.r m.racks.length h.rc, .slice h.m m.machs.length h.mc, .slice h.l m.links.length h.lc, .slice h.i m.items.length h.ic, .int .i64 m.dark, .int .i64 m.slots, .int .i64 m.reserve, .int .i64 m.failures, .slice h.u m.rules.length h.uc] 29)) l0 l1 l2 l3)
  have HL := hide (fun (w : World) (r : Nat) (hg : w.heap[r]? = some (.map (sk m) 4)) => run_lookup_int (b := true) (v := .agg #[.int .i64 m.sites.length, .func (.func 190) #[] #[]]) Tryz.underlying194 Tryz.underlying3 (zero_skind w) hg (sk_find4 m) rfl)
  have HV := hide (domI_nomach (m := m) (by_ := 4) hx)
  go_enter Tryz.func147, Tryz.ntmps147
  go_wp2_with (first
    | (go_at_call 175; refine HK.out.mono ?_; rintro e w1 ⟨r, rfl, hm, hb⟩; have hlk := HL.out w1 r hm; have HB1 := hide (HB.out.trans (hb.mono HB.out.size)); have hM1 := HM0.out.below hb (by simp); obtain ⟨a0, a1, a2, a3, a4, a5, a6, a7, a8, a9, a10⟩ := MB.cells hM1; have al := hM1.lt; clear hM1 hm hb)
    | (go_at_call 66; refine (exists_prog _ _ _).mono ?_; rintro e w2 ⟨rfl, rfl⟩))
  go_ret
  exact ⟨by rw [HV.out]; rfl, HB1.out.alloc HB1.out.size _⟩
set_option maxHeartbeats 1000000 in
theorem of4_prog (mc rk : Int) (x : RackM) (w : World) : Calls Tryz.prog 190 #[.int .i64 mc, .agg #[.string x.name, .int .i64 x.site, .int .i64 x.feed], .int .i64 rk] w (fun e w' => e = .returned (.int .i64 x.site) ∧ Below w.heap.size w w') := by
  have HB := hide ((Below.refl w.heap.size w).alloc (Nat.le_refl _) (.cells #[.string x.name, .int .i64 x.site, .int .i64 x.feed] 84))
  go_enter Tryz.func190, Tryz.ntmps190
  go_wp2_with fail
  go_ret
  exact ⟨rfl, HB.out⟩
set_option maxRecDepth 100000 in
set_option maxHeartbeats 2000000 in
theorem domain4_norack (h : MH) (m : Mod) (a : Nat) (w : World) (d : MD w w.heap.size h m) (ha : a < m.machs.length) (hr : exI m.machs[a].rack m.racks.length = false) :
    Calls Tryz.prog 147 #[.agg #[.slice h.s m.sites.length h.sc, .slice h.f m.feeds.length h.fc, .slice h.r m.racks.length h.rc, .slice h.m m.machs.length h.mc, .slice h.l m.links.length h.lc, .slice h.i m.items.length h.ic, .int .i64 m.dark, .int .i64 m.slots, .int .i64 m.reserve, .int .i64 m.failures, .slice h.u m.rules.length h.uc], .int .i64 4, .int .i64 ((a : Int) + 1)] w (DomR m 4 ((a : Int) + 1) w) := by
  have l0 := d.ml
  have l1 := d.rl
  have l2 := d.fl
  have l3 := d.sl
  have HB := hide (((Below.refl w.heap.size w).alloc (Nat.le_refl _) (.cells #[.slice h.s m.sites.length h.sc, .slice h.f m.feeds.length h.fc, .slice h.r m.racks.length h.rc, .slice h.m m.machs.length h.mc, .slice h.l m.links.length h.lc, .slice h.i m.items.length h.ic, .int .i64 m.dark, .int .i64 m.slots, .int .i64 m.reserve, .int .i64 m.failures, .slice h.u m.rules.length h.uc] 29)))
  have HM0 := hide (Blk.new w 29 #[.slice h.s m.sites.length h.sc, .slice h.f m.feeds.length h.fc, .slice h.r m.racks.length h.rc, .slice h.m m.machs.length h.mc, .slice h.l m.links.length h.lc, .slice h.i m.items.length h.ic, .int .i64 m.dark, .int .i64 m.slots, .int .i64 m.reserve, .int .i64 m.failures, .slice h.u m.rules.length h.uc])
  have HK := hide (kinds_prog h m (w.alloc (.cells #[.slice h.s m.sites.length h.sc, .slice h.f m.feeds.length h.fc, .slice h.r m.racks.length h.rc, .slice h.m m.machs.length h.mc, .slice h.l m.links.length h.lc, .slice h.i m.items.length h.ic, .int .i64 m.dark, .int .i64 m.slots, .int .i64 m.reserve, .int .i64 m.failures, .slice h.u m.rules.length h.uc] 29)) l0 l1 l2 l3)
  have HL := hide (fun (w : World) (r : Nat) (hg : w.heap[r]? = some (.map (sk m) 4)) => run_lookup_int (b := true) (v := .agg #[.int .i64 m.sites.length, .func (.func 190) #[] #[]]) Tryz.underlying194 Tryz.underlying3 (zero_skind w) hg (sk_find4 m) rfl)
  obtain ⟨b, off, hA, hb0, x0, x1, x2, hz⟩ := d.dM.mach ha
  have HA := hide hA
  rw [hA] at HB HK HM0 ⊢
  have hx : exI ((a : Int) + 1) m.machs.length = true := by simp [exI]; omega
  have haI : (a : Int) < (m.machs.length : Int) := by omega
  have hb1 : b < w.heap.size := hb0
  have HV := hide (domN_norack (by_ := 4) ha (by decide) hr)
  clear d hA hb0 x2 hz x0
  go_enter Tryz.func147, Tryz.ntmps147
  go_wp2_with (first
    | (go_at_call 175; refine HK.out.mono ?_; rintro e w1 ⟨r, rfl, hm, hb⟩; have hlk := HL.out w1 r hm; have HB1 := hide (HB.out.trans (hb.mono HB.out.size)); have hM1 := HM0.out.below hb (by simp); rw [← HA.out] at hM1; obtain ⟨a0, a1, a2, a3, a4, a5, a6, a7, a8, a9, a10⟩ := MB.cells hM1; have al := hM1.lt; rw [HA.out] at a3; have y1 := ((HB1.out.cell (p := ⟨b, off + a * 3 + 1, none⟩) hb1)).trans x1; have hbl := Nat.lt_of_lt_of_le hb1 HB1.out.size; clear hM1 hm hb)
    | (go_at_call 66; refine (exists_prog _ _ _).mono ?_; rintro e w2 ⟨rfl, rfl⟩))
  go_ret
  exact ⟨by rw [HV.out]; rfl, (HB1.out.alloc HB1.out.size _).alloc (by have := HB1.out.size; simp; omega) _⟩
theorem domN_yes {m : Mod} {by_ : Int} {a rk : Nat} (ha : a < m.machs.length) (hrk : rk < m.racks.length) (e : m.machs[a].rack = (rk : Int) + 1) : domN m by_ ((a : Int) + 1) = if by_ = 1 then (a : Int) + 1 else if by_ = 3 then m.racks[rk].feed else if by_ = 4 then m.racks[rk].site else (rk : Int) + 1 := by
  have hr : exI ((rk : Int) + 1) m.racks.length = true := by simp [exI]; omega
  unfold domN
  split
  · rfl
  · simp [ha, e, hr, hrk]
theorem domI_yes {m : Mod} {by_ : Int} {a : Nat} (ha : a < m.machs.length) {n : Int} (hn : domN m by_ ((a : Int) + 1) = n) (h : exI n (domsI m by_) = true) : domI m by_ ((a : Int) + 1) = n := by
  have : exI ((a : Int) + 1) m.machs.length = true := by simp [exI]; omega
  simp [domI, hn, h, this]
theorem domI_out {m : Mod} {by_ : Int} {a : Nat} {n : Int} (hn : domN m by_ ((a : Int) + 1) = n) (h : exI n (domsI m by_) = false) : domI m by_ ((a : Int) + 1) = 0 := by
  simp [domI, hn, h]
set_option maxRecDepth 100000 in
set_option maxHeartbeats 2000000 in
theorem domain1_yes (h : MH) (m : Mod) (a rk : Nat) (w : World) (d : MD w w.heap.size h m) (ha : a < m.machs.length) (hrk : rk < m.racks.length) (er : m.machs[a].rack = (rk : Int) + 1) (hn : exI ((a : Int) + 1) m.machs.length = true) :
    Calls Tryz.prog 147 #[.agg #[.slice h.s m.sites.length h.sc, .slice h.f m.feeds.length h.fc, .slice h.r m.racks.length h.rc, .slice h.m m.machs.length h.mc, .slice h.l m.links.length h.lc, .slice h.i m.items.length h.ic, .int .i64 m.dark, .int .i64 m.slots, .int .i64 m.reserve, .int .i64 m.failures, .slice h.u m.rules.length h.uc], .int .i64 1, .int .i64 ((a : Int) + 1)] w (DomR m 1 ((a : Int) + 1) w) := by
  have l0 := d.ml
  have l1 := d.rl
  have l2 := d.fl
  have l3 := d.sl
  have HB := hide (((Below.refl w.heap.size w).alloc (Nat.le_refl _) (.cells #[.slice h.s m.sites.length h.sc, .slice h.f m.feeds.length h.fc, .slice h.r m.racks.length h.rc, .slice h.m m.machs.length h.mc, .slice h.l m.links.length h.lc, .slice h.i m.items.length h.ic, .int .i64 m.dark, .int .i64 m.slots, .int .i64 m.reserve, .int .i64 m.failures, .slice h.u m.rules.length h.uc] 29)))
  have HM0 := hide (Blk.new w 29 #[.slice h.s m.sites.length h.sc, .slice h.f m.feeds.length h.fc, .slice h.r m.racks.length h.rc, .slice h.m m.machs.length h.mc, .slice h.l m.links.length h.lc, .slice h.i m.items.length h.ic, .int .i64 m.dark, .int .i64 m.slots, .int .i64 m.reserve, .int .i64 m.failures, .slice h.u m.rules.length h.uc])
  have HK := hide (kinds_prog h m (w.alloc (.cells #[.slice h.s m.sites.length h.sc, .slice h.f m.feeds.length h.fc, .slice h.r m.racks.length h.rc, .slice h.m m.machs.length h.mc, .slice h.l m.links.length h.lc, .slice h.i m.items.length h.ic, .int .i64 m.dark, .int .i64 m.slots, .int .i64 m.reserve, .int .i64 m.failures, .slice h.u m.rules.length h.uc] 29)) l0 l1 l2 l3)
  have HL := hide (fun (w : World) (r : Nat) (hg : w.heap[r]? = some (.map (sk m) 4)) => run_lookup_int (b := true) (v := .agg #[.int .i64 m.machs.length, .func (.func 187) #[] #[]]) Tryz.underlying194 Tryz.underlying3 (zero_skind w) hg (sk_find1 m) rfl)
  obtain ⟨b, off, hA, hb0, x0, x1, x2, hz⟩ := d.dM.mach ha
  obtain ⟨b2, off2, hA2, hb2, z0, z1, z2, _⟩ := d.dR.rack hrk
  obtain ⟨x, hx2⟩ : ∃ x, m.racks[rk] = x := ⟨_, rfl⟩
  rw [hx2] at z0 z1 z2
  have HN := domN_yes (by_ := 1) ha hrk er
  rw [hx2] at HN
  have HA := hide hA
  have HA2 := hide hA2
  rw [hA, hA2] at HB HK HM0 ⊢
  rw [er] at x1
  have hx : exI ((a : Int) + 1) m.machs.length = true := by simp [exI]; omega
  have hxr : exI ((rk : Int) + 1) m.racks.length = true := by simp [exI]; omega
  have haI : (a : Int) < (m.machs.length : Int) := by omega
  have hrI : (rk : Int) < (m.racks.length : Int) := by omega
  have hb1 : b < w.heap.size := hb0
  have HO := hide (fun w => of1_prog ((a : Int) + 1) ((rk : Int) + 1) x w)
  have HV := hide (domI_yes ha HN hn)
  clear d hA hA2 hb0 x2 hz x0 HN
  go_enter Tryz.func147, Tryz.ntmps147
  go_wp2_with (first
    | (go_at_call 175; refine HK.out.mono ?_; rintro e w1 ⟨r, rfl, hm, hb⟩; have hlk := HL.out w1 r hm; have HB1 := hide (HB.out.trans (hb.mono HB.out.size)); have hM1 := HM0.out.below hb (by simp); rw [← HA.out, ← HA2.out] at hM1; obtain ⟨a0, a1, a2, a3, a4, a5, a6, a7, a8, a9, a10⟩ := MB.cells hM1; have al := hM1.lt; rw [HA.out] at a3; rw [HA2.out] at a2
       have y1 := ((HB1.out.cell (p := ⟨b, off + a * 3 + 1, none⟩) hb1)).trans x1; have v0 := ((HB1.out.cell (p := ⟨b2, off2 + rk * 3, none⟩) hb2)).trans z0; have v1 := ((HB1.out.cell (p := ⟨b2, off2 + rk * 3 + 1, none⟩) hb2)).trans z1; have v2 := ((HB1.out.cell (p := ⟨b2, off2 + rk * 3 + 2, none⟩) hb2)).trans z2
       have hbl := Nat.lt_of_lt_of_le hb1 HB1.out.size; have hbl2 := Nat.lt_of_lt_of_le hb2 HB1.out.size; clear hM1 hm hb)
    | (go_at_call 66; refine (exists_prog _ _ _).mono ?_; rintro e w2 ⟨rfl, rfl⟩)
    | (refine (HO.out _).mono ?_; rintro e w3 ⟨rfl, hb3⟩; have HB3 := hide hb3; have q0 := (hb3.cell (p := ⟨w1.heap.size, 0, none⟩) (by simp; omega)); have q1 := (hb3.cell (p := ⟨w1.heap.size, 1, none⟩) (by simp; omega)); simp at q0 q1; clear hb3))
  go_ret
  exact ⟨by rw [HV.out]; rfl, (((HB1.out.alloc HB1.out.size _).alloc (by have := HB1.out.size; simp; omega) _).trans (HB3.out.mono (by have := HB1.out.size; simp; omega)))⟩
set_option maxRecDepth 100000 in
set_option maxHeartbeats 2000000 in
theorem domain2_yes (h : MH) (m : Mod) (a rk : Nat) (w : World) (d : MD w w.heap.size h m) (ha : a < m.machs.length) (hrk : rk < m.racks.length) (er : m.machs[a].rack = (rk : Int) + 1) (hn : exI ((rk : Int) + 1) m.racks.length = true) :
    Calls Tryz.prog 147 #[.agg #[.slice h.s m.sites.length h.sc, .slice h.f m.feeds.length h.fc, .slice h.r m.racks.length h.rc, .slice h.m m.machs.length h.mc, .slice h.l m.links.length h.lc, .slice h.i m.items.length h.ic, .int .i64 m.dark, .int .i64 m.slots, .int .i64 m.reserve, .int .i64 m.failures, .slice h.u m.rules.length h.uc], .int .i64 2, .int .i64 ((a : Int) + 1)] w (DomR m 2 ((a : Int) + 1) w) := by
  have l0 := d.ml
  have l1 := d.rl
  have l2 := d.fl
  have l3 := d.sl
  have HB := hide (((Below.refl w.heap.size w).alloc (Nat.le_refl _) (.cells #[.slice h.s m.sites.length h.sc, .slice h.f m.feeds.length h.fc, .slice h.r m.racks.length h.rc, .slice h.m m.machs.length h.mc, .slice h.l m.links.length h.lc, .slice h.i m.items.length h.ic, .int .i64 m.dark, .int .i64 m.slots, .int .i64 m.reserve, .int .i64 m.failures, .slice h.u m.rules.length h.uc] 29)))
  have HM0 := hide (Blk.new w 29 #[.slice h.s m.sites.length h.sc, .slice h.f m.feeds.length h.fc, .slice h.r m.racks.length h.rc, .slice h.m m.machs.length h.mc, .slice h.l m.links.length h.lc, .slice h.i m.items.length h.ic, .int .i64 m.dark, .int .i64 m.slots, .int .i64 m.reserve, .int .i64 m.failures, .slice h.u m.rules.length h.uc])
  have HK := hide (kinds_prog h m (w.alloc (.cells #[.slice h.s m.sites.length h.sc, .slice h.f m.feeds.length h.fc, .slice h.r m.racks.length h.rc, .slice h.m m.machs.length h.mc, .slice h.l m.links.length h.lc, .slice h.i m.items.length h.ic, .int .i64 m.dark, .int .i64 m.slots, .int .i64 m.reserve, .int .i64 m.failures, .slice h.u m.rules.length h.uc] 29)) l0 l1 l2 l3)
  have HL := hide (fun (w : World) (r : Nat) (hg : w.heap[r]? = some (.map (sk m) 4)) => run_lookup_int (b := true) (v := .agg #[.int .i64 m.racks.length, .func (.func 188) #[] #[]]) Tryz.underlying194 Tryz.underlying3 (zero_skind w) hg (sk_find2 m) rfl)
  obtain ⟨b, off, hA, hb0, x0, x1, x2, hz⟩ := d.dM.mach ha
  obtain ⟨b2, off2, hA2, hb2, z0, z1, z2, _⟩ := d.dR.rack hrk
  obtain ⟨x, hx2⟩ : ∃ x, m.racks[rk] = x := ⟨_, rfl⟩
  rw [hx2] at z0 z1 z2
  have HN := domN_yes (by_ := 2) ha hrk er
  rw [hx2] at HN
  have HA := hide hA
  have HA2 := hide hA2
  rw [hA, hA2] at HB HK HM0 ⊢
  rw [er] at x1
  have hx : exI ((a : Int) + 1) m.machs.length = true := by simp [exI]; omega
  have hxr : exI ((rk : Int) + 1) m.racks.length = true := by simp [exI]; omega
  have haI : (a : Int) < (m.machs.length : Int) := by omega
  have hrI : (rk : Int) < (m.racks.length : Int) := by omega
  have hb1 : b < w.heap.size := hb0
  have HO := hide (fun w => of2_prog ((a : Int) + 1) ((rk : Int) + 1) x w)
  have HV := hide (domI_yes ha HN hn)
  clear d hA hA2 hb0 x2 hz x0 HN
  go_enter Tryz.func147, Tryz.ntmps147
  go_wp2_with (first
    | (go_at_call 175; refine HK.out.mono ?_; rintro e w1 ⟨r, rfl, hm, hb⟩; have hlk := HL.out w1 r hm; have HB1 := hide (HB.out.trans (hb.mono HB.out.size)); have hM1 := HM0.out.below hb (by simp); rw [← HA.out, ← HA2.out] at hM1; obtain ⟨a0, a1, a2, a3, a4, a5, a6, a7, a8, a9, a10⟩ := MB.cells hM1; have al := hM1.lt; rw [HA.out] at a3; rw [HA2.out] at a2
       have y1 := ((HB1.out.cell (p := ⟨b, off + a * 3 + 1, none⟩) hb1)).trans x1; have v0 := ((HB1.out.cell (p := ⟨b2, off2 + rk * 3, none⟩) hb2)).trans z0; have v1 := ((HB1.out.cell (p := ⟨b2, off2 + rk * 3 + 1, none⟩) hb2)).trans z1; have v2 := ((HB1.out.cell (p := ⟨b2, off2 + rk * 3 + 2, none⟩) hb2)).trans z2
       have hbl := Nat.lt_of_lt_of_le hb1 HB1.out.size; have hbl2 := Nat.lt_of_lt_of_le hb2 HB1.out.size; clear hM1 hm hb)
    | (go_at_call 66; refine (exists_prog _ _ _).mono ?_; rintro e w2 ⟨rfl, rfl⟩)
    | (refine (HO.out _).mono ?_; rintro e w3 ⟨rfl, hb3⟩; have HB3 := hide hb3; have q0 := (hb3.cell (p := ⟨w1.heap.size, 0, none⟩) (by simp; omega)); have q1 := (hb3.cell (p := ⟨w1.heap.size, 1, none⟩) (by simp; omega)); simp at q0 q1; clear hb3))
  go_ret
  exact ⟨by rw [HV.out]; rfl, (((HB1.out.alloc HB1.out.size _).alloc (by have := HB1.out.size; simp; omega) _).trans (HB3.out.mono (by have := HB1.out.size; simp; omega)))⟩
set_option maxRecDepth 100000 in
set_option maxHeartbeats 2000000 in
theorem domain3_yes (h : MH) (m : Mod) (a rk : Nat) (w : World) (d : MD w w.heap.size h m) (ha : a < m.machs.length) (hrk : rk < m.racks.length) (er : m.machs[a].rack = (rk : Int) + 1) (hn : exI m.racks[rk].feed m.feeds.length = true) :
    Calls Tryz.prog 147 #[.agg #[.slice h.s m.sites.length h.sc, .slice h.f m.feeds.length h.fc, .slice h.r m.racks.length h.rc, .slice h.m m.machs.length h.mc, .slice h.l m.links.length h.lc, .slice h.i m.items.length h.ic, .int .i64 m.dark, .int .i64 m.slots, .int .i64 m.reserve, .int .i64 m.failures, .slice h.u m.rules.length h.uc], .int .i64 3, .int .i64 ((a : Int) + 1)] w (DomR m 3 ((a : Int) + 1) w) := by
  have l0 := d.ml
  have l1 := d.rl
  have l2 := d.fl
  have l3 := d.sl
  have HB := hide (((Below.refl w.heap.size w).alloc (Nat.le_refl _) (.cells #[.slice h.s m.sites.length h.sc, .slice h.f m.feeds.length h.fc, .slice h.r m.racks.length h.rc, .slice h.m m.machs.length h.mc, .slice h.l m.links.length h.lc, .slice h.i m.items.length h.ic, .int .i64 m.dark, .int .i64 m.slots, .int .i64 m.reserve, .int .i64 m.failures, .slice h.u m.rules.length h.uc] 29)))
  have HM0 := hide (Blk.new w 29 #[.slice h.s m.sites.length h.sc, .slice h.f m.feeds.length h.fc, .slice h.r m.racks.length h.rc, .slice h.m m.machs.length h.mc, .slice h.l m.links.length h.lc, .slice h.i m.items.length h.ic, .int .i64 m.dark, .int .i64 m.slots, .int .i64 m.reserve, .int .i64 m.failures, .slice h.u m.rules.length h.uc])
  have HK := hide (kinds_prog h m (w.alloc (.cells #[.slice h.s m.sites.length h.sc, .slice h.f m.feeds.length h.fc, .slice h.r m.racks.length h.rc, .slice h.m m.machs.length h.mc, .slice h.l m.links.length h.lc, .slice h.i m.items.length h.ic, .int .i64 m.dark, .int .i64 m.slots, .int .i64 m.reserve, .int .i64 m.failures, .slice h.u m.rules.length h.uc] 29)) l0 l1 l2 l3)
  have HL := hide (fun (w : World) (r : Nat) (hg : w.heap[r]? = some (.map (sk m) 4)) => run_lookup_int (b := true) (v := .agg #[.int .i64 m.feeds.length, .func (.func 189) #[] #[]]) Tryz.underlying194 Tryz.underlying3 (zero_skind w) hg (sk_find3 m) rfl)
  obtain ⟨b, off, hA, hb0, x0, x1, x2, hz⟩ := d.dM.mach ha
  obtain ⟨b2, off2, hA2, hb2, z0, z1, z2, _⟩ := d.dR.rack hrk
  obtain ⟨x, hx2⟩ : ∃ x, m.racks[rk] = x := ⟨_, rfl⟩
  rw [hx2] at z0 z1 z2
  have HN := domN_yes (by_ := 3) ha hrk er
  rw [hx2] at HN
  have HA := hide hA
  have HA2 := hide hA2
  rw [hA, hA2] at HB HK HM0 ⊢
  rw [er] at x1
  have hx : exI ((a : Int) + 1) m.machs.length = true := by simp [exI]; omega
  have hxr : exI ((rk : Int) + 1) m.racks.length = true := by simp [exI]; omega
  have haI : (a : Int) < (m.machs.length : Int) := by omega
  have hrI : (rk : Int) < (m.racks.length : Int) := by omega
  have hb1 : b < w.heap.size := hb0
  have HO := hide (fun w => of3_prog ((a : Int) + 1) ((rk : Int) + 1) x w)
  rw [hx2] at hn
  have HV := hide (domI_yes ha HN hn)
  clear d hA hA2 hb0 x2 hz x0 HN
  go_enter Tryz.func147, Tryz.ntmps147
  go_wp2_with (first
    | (go_at_call 175; refine HK.out.mono ?_; rintro e w1 ⟨r, rfl, hm, hb⟩; have hlk := HL.out w1 r hm; have HB1 := hide (HB.out.trans (hb.mono HB.out.size)); have hM1 := HM0.out.below hb (by simp); rw [← HA.out, ← HA2.out] at hM1; obtain ⟨a0, a1, a2, a3, a4, a5, a6, a7, a8, a9, a10⟩ := MB.cells hM1; have al := hM1.lt; rw [HA.out] at a3; rw [HA2.out] at a2
       have y1 := ((HB1.out.cell (p := ⟨b, off + a * 3 + 1, none⟩) hb1)).trans x1; have v0 := ((HB1.out.cell (p := ⟨b2, off2 + rk * 3, none⟩) hb2)).trans z0; have v1 := ((HB1.out.cell (p := ⟨b2, off2 + rk * 3 + 1, none⟩) hb2)).trans z1; have v2 := ((HB1.out.cell (p := ⟨b2, off2 + rk * 3 + 2, none⟩) hb2)).trans z2
       have hbl := Nat.lt_of_lt_of_le hb1 HB1.out.size; have hbl2 := Nat.lt_of_lt_of_le hb2 HB1.out.size; clear hM1 hm hb)
    | (go_at_call 66; refine (exists_prog _ _ _).mono ?_; rintro e w2 ⟨rfl, rfl⟩)
    | (refine (HO.out _).mono ?_; rintro e w3 ⟨rfl, hb3⟩; have HB3 := hide hb3; have q0 := (hb3.cell (p := ⟨w1.heap.size, 0, none⟩) (by simp; omega)); have q1 := (hb3.cell (p := ⟨w1.heap.size, 1, none⟩) (by simp; omega)); simp at q0 q1; clear hb3))
  go_ret
  exact ⟨by rw [HV.out]; rfl, (((HB1.out.alloc HB1.out.size _).alloc (by have := HB1.out.size; simp; omega) _).trans (HB3.out.mono (by have := HB1.out.size; simp; omega)))⟩
set_option maxRecDepth 100000 in
set_option maxHeartbeats 2000000 in
theorem domain3_out (h : MH) (m : Mod) (a rk : Nat) (w : World) (d : MD w w.heap.size h m) (ha : a < m.machs.length) (hrk : rk < m.racks.length) (er : m.machs[a].rack = (rk : Int) + 1) (hn : exI m.racks[rk].feed m.feeds.length = false) :
    Calls Tryz.prog 147 #[.agg #[.slice h.s m.sites.length h.sc, .slice h.f m.feeds.length h.fc, .slice h.r m.racks.length h.rc, .slice h.m m.machs.length h.mc, .slice h.l m.links.length h.lc, .slice h.i m.items.length h.ic, .int .i64 m.dark, .int .i64 m.slots, .int .i64 m.reserve, .int .i64 m.failures, .slice h.u m.rules.length h.uc], .int .i64 3, .int .i64 ((a : Int) + 1)] w (DomR m 3 ((a : Int) + 1) w) := by
  have l0 := d.ml
  have l1 := d.rl
  have l2 := d.fl
  have l3 := d.sl
  have HB := hide (((Below.refl w.heap.size w).alloc (Nat.le_refl _) (.cells #[.slice h.s m.sites.length h.sc, .slice h.f m.feeds.length h.fc, .slice h.r m.racks.length h.rc, .slice h.m m.machs.length h.mc, .slice h.l m.links.length h.lc, .slice h.i m.items.length h.ic, .int .i64 m.dark, .int .i64 m.slots, .int .i64 m.reserve, .int .i64 m.failures, .slice h.u m.rules.length h.uc] 29)))
  have HM0 := hide (Blk.new w 29 #[.slice h.s m.sites.length h.sc, .slice h.f m.feeds.length h.fc, .slice h.r m.racks.length h.rc, .slice h.m m.machs.length h.mc, .slice h.l m.links.length h.lc, .slice h.i m.items.length h.ic, .int .i64 m.dark, .int .i64 m.slots, .int .i64 m.reserve, .int .i64 m.failures, .slice h.u m.rules.length h.uc])
  have HK := hide (kinds_prog h m (w.alloc (.cells #[.slice h.s m.sites.length h.sc, .slice h.f m.feeds.length h.fc, .slice h.r m.racks.length h.rc, .slice h.m m.machs.length h.mc, .slice h.l m.links.length h.lc, .slice h.i m.items.length h.ic, .int .i64 m.dark, .int .i64 m.slots, .int .i64 m.reserve, .int .i64 m.failures, .slice h.u m.rules.length h.uc] 29)) l0 l1 l2 l3)
  have HL := hide (fun (w : World) (r : Nat) (hg : w.heap[r]? = some (.map (sk m) 4)) => run_lookup_int (b := true) (v := .agg #[.int .i64 m.feeds.length, .func (.func 189) #[] #[]]) Tryz.underlying194 Tryz.underlying3 (zero_skind w) hg (sk_find3 m) rfl)
  obtain ⟨b, off, hA, hb0, x0, x1, x2, hz⟩ := d.dM.mach ha
  obtain ⟨b2, off2, hA2, hb2, z0, z1, z2, _⟩ := d.dR.rack hrk
  obtain ⟨x, hx2⟩ : ∃ x, m.racks[rk] = x := ⟨_, rfl⟩
  rw [hx2] at z0 z1 z2
  have HN := domN_yes (by_ := 3) ha hrk er
  rw [hx2] at HN
  have HA := hide hA
  have HA2 := hide hA2
  rw [hA, hA2] at HB HK HM0 ⊢
  rw [er] at x1
  have hx : exI ((a : Int) + 1) m.machs.length = true := by simp [exI]; omega
  have hxr : exI ((rk : Int) + 1) m.racks.length = true := by simp [exI]; omega
  have haI : (a : Int) < (m.machs.length : Int) := by omega
  have hrI : (rk : Int) < (m.racks.length : Int) := by omega
  have hb1 : b < w.heap.size := hb0
  have HO := hide (fun w => of3_prog ((a : Int) + 1) ((rk : Int) + 1) x w)
  rw [hx2] at hn
  have HV := hide (domI_out HN hn)
  clear d hA hA2 hb0 x2 hz x0 HN
  go_enter Tryz.func147, Tryz.ntmps147
  go_wp2_with (first
    | (go_at_call 175; refine HK.out.mono ?_; rintro e w1 ⟨r, rfl, hm, hb⟩; have hlk := HL.out w1 r hm; have HB1 := hide (HB.out.trans (hb.mono HB.out.size)); have hM1 := HM0.out.below hb (by simp); rw [← HA.out, ← HA2.out] at hM1; obtain ⟨a0, a1, a2, a3, a4, a5, a6, a7, a8, a9, a10⟩ := MB.cells hM1; have al := hM1.lt; rw [HA.out] at a3; rw [HA2.out] at a2
       have y1 := ((HB1.out.cell (p := ⟨b, off + a * 3 + 1, none⟩) hb1)).trans x1; have v0 := ((HB1.out.cell (p := ⟨b2, off2 + rk * 3, none⟩) hb2)).trans z0; have v1 := ((HB1.out.cell (p := ⟨b2, off2 + rk * 3 + 1, none⟩) hb2)).trans z1; have v2 := ((HB1.out.cell (p := ⟨b2, off2 + rk * 3 + 2, none⟩) hb2)).trans z2
       have hbl := Nat.lt_of_lt_of_le hb1 HB1.out.size; have hbl2 := Nat.lt_of_lt_of_le hb2 HB1.out.size; clear hM1 hm hb)
    | (go_at_call 66; refine (exists_prog _ _ _).mono ?_; rintro e w2 ⟨rfl, rfl⟩)
    | (refine (HO.out _).mono ?_; rintro e w3 ⟨rfl, hb3⟩; have HB3 := hide hb3; have q0 := (hb3.cell (p := ⟨w1.heap.size, 0, none⟩) (by simp; omega)); have q1 := (hb3.cell (p := ⟨w1.heap.size, 1, none⟩) (by simp; omega)); simp at q0 q1; clear hb3))
  go_ret
  exact ⟨by rw [HV.out]; rfl, (((HB1.out.alloc HB1.out.size _).alloc (by have := HB1.out.size; simp; omega) _).trans (HB3.out.mono (by have := HB1.out.size; simp; omega)))⟩
set_option maxRecDepth 100000 in
set_option maxHeartbeats 2000000 in
theorem domain4_yes (h : MH) (m : Mod) (a rk : Nat) (w : World) (d : MD w w.heap.size h m) (ha : a < m.machs.length) (hrk : rk < m.racks.length) (er : m.machs[a].rack = (rk : Int) + 1) (hn : exI m.racks[rk].site m.sites.length = true) :
    Calls Tryz.prog 147 #[.agg #[.slice h.s m.sites.length h.sc, .slice h.f m.feeds.length h.fc, .slice h.r m.racks.length h.rc, .slice h.m m.machs.length h.mc, .slice h.l m.links.length h.lc, .slice h.i m.items.length h.ic, .int .i64 m.dark, .int .i64 m.slots, .int .i64 m.reserve, .int .i64 m.failures, .slice h.u m.rules.length h.uc], .int .i64 4, .int .i64 ((a : Int) + 1)] w (DomR m 4 ((a : Int) + 1) w) := by
  have l0 := d.ml
  have l1 := d.rl
  have l2 := d.fl
  have l3 := d.sl
  have HB := hide (((Below.refl w.heap.size w).alloc (Nat.le_refl _) (.cells #[.slice h.s m.sites.length h.sc, .slice h.f m.feeds.length h.fc, .slice h.r m.racks.length h.rc, .slice h.m m.machs.length h.mc, .slice h.l m.links.length h.lc, .slice h.i m.items.length h.ic, .int .i64 m.dark, .int .i64 m.slots, .int .i64 m.reserve, .int .i64 m.failures, .slice h.u m.rules.length h.uc] 29)))
  have HM0 := hide (Blk.new w 29 #[.slice h.s m.sites.length h.sc, .slice h.f m.feeds.length h.fc, .slice h.r m.racks.length h.rc, .slice h.m m.machs.length h.mc, .slice h.l m.links.length h.lc, .slice h.i m.items.length h.ic, .int .i64 m.dark, .int .i64 m.slots, .int .i64 m.reserve, .int .i64 m.failures, .slice h.u m.rules.length h.uc])
  have HK := hide (kinds_prog h m (w.alloc (.cells #[.slice h.s m.sites.length h.sc, .slice h.f m.feeds.length h.fc, .slice h.r m.racks.length h.rc, .slice h.m m.machs.length h.mc, .slice h.l m.links.length h.lc, .slice h.i m.items.length h.ic, .int .i64 m.dark, .int .i64 m.slots, .int .i64 m.reserve, .int .i64 m.failures, .slice h.u m.rules.length h.uc] 29)) l0 l1 l2 l3)
  have HL := hide (fun (w : World) (r : Nat) (hg : w.heap[r]? = some (.map (sk m) 4)) => run_lookup_int (b := true) (v := .agg #[.int .i64 m.sites.length, .func (.func 190) #[] #[]]) Tryz.underlying194 Tryz.underlying3 (zero_skind w) hg (sk_find4 m) rfl)
  obtain ⟨b, off, hA, hb0, x0, x1, x2, hz⟩ := d.dM.mach ha
  obtain ⟨b2, off2, hA2, hb2, z0, z1, z2, _⟩ := d.dR.rack hrk
  obtain ⟨x, hx2⟩ : ∃ x, m.racks[rk] = x := ⟨_, rfl⟩
  rw [hx2] at z0 z1 z2
  have HN := domN_yes (by_ := 4) ha hrk er
  rw [hx2] at HN
  have HA := hide hA
  have HA2 := hide hA2
  rw [hA, hA2] at HB HK HM0 ⊢
  rw [er] at x1
  have hx : exI ((a : Int) + 1) m.machs.length = true := by simp [exI]; omega
  have hxr : exI ((rk : Int) + 1) m.racks.length = true := by simp [exI]; omega
  have haI : (a : Int) < (m.machs.length : Int) := by omega
  have hrI : (rk : Int) < (m.racks.length : Int) := by omega
  have hb1 : b < w.heap.size := hb0
  have HO := hide (fun w => of4_prog ((a : Int) + 1) ((rk : Int) + 1) x w)
  rw [hx2] at hn
  have HV := hide (domI_yes ha HN hn)
  clear d hA hA2 hb0 x2 hz x0 HN
  go_enter Tryz.func147, Tryz.ntmps147
  go_wp2_with (first
    | (go_at_call 175; refine HK.out.mono ?_; rintro e w1 ⟨r, rfl, hm, hb⟩; have hlk := HL.out w1 r hm; have HB1 := hide (HB.out.trans (hb.mono HB.out.size)); have hM1 := HM0.out.below hb (by simp); rw [← HA.out, ← HA2.out] at hM1; obtain ⟨a0, a1, a2, a3, a4, a5, a6, a7, a8, a9, a10⟩ := MB.cells hM1; have al := hM1.lt; rw [HA.out] at a3; rw [HA2.out] at a2
       have y1 := ((HB1.out.cell (p := ⟨b, off + a * 3 + 1, none⟩) hb1)).trans x1; have v0 := ((HB1.out.cell (p := ⟨b2, off2 + rk * 3, none⟩) hb2)).trans z0; have v1 := ((HB1.out.cell (p := ⟨b2, off2 + rk * 3 + 1, none⟩) hb2)).trans z1; have v2 := ((HB1.out.cell (p := ⟨b2, off2 + rk * 3 + 2, none⟩) hb2)).trans z2
       have hbl := Nat.lt_of_lt_of_le hb1 HB1.out.size; have hbl2 := Nat.lt_of_lt_of_le hb2 HB1.out.size; clear hM1 hm hb)
    | (go_at_call 66; refine (exists_prog _ _ _).mono ?_; rintro e w2 ⟨rfl, rfl⟩)
    | (refine (HO.out _).mono ?_; rintro e w3 ⟨rfl, hb3⟩; have HB3 := hide hb3; have q0 := (hb3.cell (p := ⟨w1.heap.size, 0, none⟩) (by simp; omega)); have q1 := (hb3.cell (p := ⟨w1.heap.size, 1, none⟩) (by simp; omega)); simp at q0 q1; clear hb3))
  go_ret
  exact ⟨by rw [HV.out]; rfl, (((HB1.out.alloc HB1.out.size _).alloc (by have := HB1.out.size; simp; omega) _).trans (HB3.out.mono (by have := HB1.out.size; simp; omega)))⟩
set_option maxRecDepth 100000 in
set_option maxHeartbeats 2000000 in
theorem domain4_out (h : MH) (m : Mod) (a rk : Nat) (w : World) (d : MD w w.heap.size h m) (ha : a < m.machs.length) (hrk : rk < m.racks.length) (er : m.machs[a].rack = (rk : Int) + 1) (hn : exI m.racks[rk].site m.sites.length = false) :
    Calls Tryz.prog 147 #[.agg #[.slice h.s m.sites.length h.sc, .slice h.f m.feeds.length h.fc, .slice h.r m.racks.length h.rc, .slice h.m m.machs.length h.mc, .slice h.l m.links.length h.lc, .slice h.i m.items.length h.ic, .int .i64 m.dark, .int .i64 m.slots, .int .i64 m.reserve, .int .i64 m.failures, .slice h.u m.rules.length h.uc], .int .i64 4, .int .i64 ((a : Int) + 1)] w (DomR m 4 ((a : Int) + 1) w) := by
  have l0 := d.ml
  have l1 := d.rl
  have l2 := d.fl
  have l3 := d.sl
  have HB := hide (((Below.refl w.heap.size w).alloc (Nat.le_refl _) (.cells #[.slice h.s m.sites.length h.sc, .slice h.f m.feeds.length h.fc, .slice h.r m.racks.length h.rc, .slice h.m m.machs.length h.mc, .slice h.l m.links.length h.lc, .slice h.i m.items.length h.ic, .int .i64 m.dark, .int .i64 m.slots, .int .i64 m.reserve, .int .i64 m.failures, .slice h.u m.rules.length h.uc] 29)))
  have HM0 := hide (Blk.new w 29 #[.slice h.s m.sites.length h.sc, .slice h.f m.feeds.length h.fc, .slice h.r m.racks.length h.rc, .slice h.m m.machs.length h.mc, .slice h.l m.links.length h.lc, .slice h.i m.items.length h.ic, .int .i64 m.dark, .int .i64 m.slots, .int .i64 m.reserve, .int .i64 m.failures, .slice h.u m.rules.length h.uc])
  have HK := hide (kinds_prog h m (w.alloc (.cells #[.slice h.s m.sites.length h.sc, .slice h.f m.feeds.length h.fc, .slice h.r m.racks.length h.rc, .slice h.m m.machs.length h.mc, .slice h.l m.links.length h.lc, .slice h.i m.items.length h.ic, .int .i64 m.dark, .int .i64 m.slots, .int .i64 m.reserve, .int .i64 m.failures, .slice h.u m.rules.length h.uc] 29)) l0 l1 l2 l3)
  have HL := hide (fun (w : World) (r : Nat) (hg : w.heap[r]? = some (.map (sk m) 4)) => run_lookup_int (b := true) (v := .agg #[.int .i64 m.sites.length, .func (.func 190) #[] #[]]) Tryz.underlying194 Tryz.underlying3 (zero_skind w) hg (sk_find4 m) rfl)
  obtain ⟨b, off, hA, hb0, x0, x1, x2, hz⟩ := d.dM.mach ha
  obtain ⟨b2, off2, hA2, hb2, z0, z1, z2, _⟩ := d.dR.rack hrk
  obtain ⟨x, hx2⟩ : ∃ x, m.racks[rk] = x := ⟨_, rfl⟩
  rw [hx2] at z0 z1 z2
  have HN := domN_yes (by_ := 4) ha hrk er
  rw [hx2] at HN
  have HA := hide hA
  have HA2 := hide hA2
  rw [hA, hA2] at HB HK HM0 ⊢
  rw [er] at x1
  have hx : exI ((a : Int) + 1) m.machs.length = true := by simp [exI]; omega
  have hxr : exI ((rk : Int) + 1) m.racks.length = true := by simp [exI]; omega
  have haI : (a : Int) < (m.machs.length : Int) := by omega
  have hrI : (rk : Int) < (m.racks.length : Int) := by omega
  have hb1 : b < w.heap.size := hb0
  have HO := hide (fun w => of4_prog ((a : Int) + 1) ((rk : Int) + 1) x w)
  rw [hx2] at hn
  have HV := hide (domI_out HN hn)
  clear d hA hA2 hb0 x2 hz x0 HN
  go_enter Tryz.func147, Tryz.ntmps147
  go_wp2_with (first
    | (go_at_call 175; refine HK.out.mono ?_; rintro e w1 ⟨r, rfl, hm, hb⟩; have hlk := HL.out w1 r hm; have HB1 := hide (HB.out.trans (hb.mono HB.out.size)); have hM1 := HM0.out.below hb (by simp); rw [← HA.out, ← HA2.out] at hM1; obtain ⟨a0, a1, a2, a3, a4, a5, a6, a7, a8, a9, a10⟩ := MB.cells hM1; have al := hM1.lt; rw [HA.out] at a3; rw [HA2.out] at a2
       have y1 := ((HB1.out.cell (p := ⟨b, off + a * 3 + 1, none⟩) hb1)).trans x1; have v0 := ((HB1.out.cell (p := ⟨b2, off2 + rk * 3, none⟩) hb2)).trans z0; have v1 := ((HB1.out.cell (p := ⟨b2, off2 + rk * 3 + 1, none⟩) hb2)).trans z1; have v2 := ((HB1.out.cell (p := ⟨b2, off2 + rk * 3 + 2, none⟩) hb2)).trans z2
       have hbl := Nat.lt_of_lt_of_le hb1 HB1.out.size; have hbl2 := Nat.lt_of_lt_of_le hb2 HB1.out.size; clear hM1 hm hb)
    | (go_at_call 66; refine (exists_prog _ _ _).mono ?_; rintro e w2 ⟨rfl, rfl⟩)
    | (refine (HO.out _).mono ?_; rintro e w3 ⟨rfl, hb3⟩; have HB3 := hide hb3; have q0 := (hb3.cell (p := ⟨w1.heap.size, 0, none⟩) (by simp; omega)); have q1 := (hb3.cell (p := ⟨w1.heap.size, 1, none⟩) (by simp; omega)); simp at q0 q1; clear hb3))
  go_ret
  exact ⟨by rw [HV.out]; rfl, (((HB1.out.alloc HB1.out.size _).alloc (by have := HB1.out.size; simp; omega) _).trans (HB3.out.mono (by have := HB1.out.size; simp; omega)))⟩
set_option maxRecDepth 100000 in
set_option maxHeartbeats 2000000 in
theorem domain1_norack (h : MH) (m : Mod) (a : Nat) (w : World) (d : MD w w.heap.size h m) (ha : a < m.machs.length) (hr : exI m.machs[a].rack m.racks.length = false) :
    Calls Tryz.prog 147 #[.agg #[.slice h.s m.sites.length h.sc, .slice h.f m.feeds.length h.fc, .slice h.r m.racks.length h.rc, .slice h.m m.machs.length h.mc, .slice h.l m.links.length h.lc, .slice h.i m.items.length h.ic, .int .i64 m.dark, .int .i64 m.slots, .int .i64 m.reserve, .int .i64 m.failures, .slice h.u m.rules.length h.uc], .int .i64 1, .int .i64 ((a : Int) + 1)] w (DomR m 1 ((a : Int) + 1) w) := by
  have l0 := d.ml
  have l1 := d.rl
  have l2 := d.fl
  have l3 := d.sl
  have HB := hide (((Below.refl w.heap.size w).alloc (Nat.le_refl _) (.cells #[.slice h.s m.sites.length h.sc, .slice h.f m.feeds.length h.fc, .slice h.r m.racks.length h.rc, .slice h.m m.machs.length h.mc, .slice h.l m.links.length h.lc, .slice h.i m.items.length h.ic, .int .i64 m.dark, .int .i64 m.slots, .int .i64 m.reserve, .int .i64 m.failures, .slice h.u m.rules.length h.uc] 29)))
  have HM0 := hide (Blk.new w 29 #[.slice h.s m.sites.length h.sc, .slice h.f m.feeds.length h.fc, .slice h.r m.racks.length h.rc, .slice h.m m.machs.length h.mc, .slice h.l m.links.length h.lc, .slice h.i m.items.length h.ic, .int .i64 m.dark, .int .i64 m.slots, .int .i64 m.reserve, .int .i64 m.failures, .slice h.u m.rules.length h.uc])
  have HK := hide (kinds_prog h m (w.alloc (.cells #[.slice h.s m.sites.length h.sc, .slice h.f m.feeds.length h.fc, .slice h.r m.racks.length h.rc, .slice h.m m.machs.length h.mc, .slice h.l m.links.length h.lc, .slice h.i m.items.length h.ic, .int .i64 m.dark, .int .i64 m.slots, .int .i64 m.reserve, .int .i64 m.failures, .slice h.u m.rules.length h.uc] 29)) l0 l1 l2 l3)
  have HL := hide (fun (w : World) (r : Nat) (hg : w.heap[r]? = some (.map (sk m) 4)) => run_lookup_int (b := true) (v := .agg #[.int .i64 m.machs.length, .func (.func 187) #[] #[]]) Tryz.underlying194 Tryz.underlying3 (zero_skind w) hg (sk_find1 m) rfl)
  obtain ⟨b, off, hA, hb0, x0, x1, x2, hz⟩ := d.dM.mach ha
  have HA := hide hA
  rw [hA] at HB HK HM0 ⊢
  have hx : exI ((a : Int) + 1) m.machs.length = true := by simp [exI]; omega
  have haI : (a : Int) < (m.machs.length : Int) := by omega
  have hb1 : b < w.heap.size := hb0
  have HV := hide (domI_yes (by_ := 1) ha (if_pos rfl) hx)
  obtain ⟨rk, hrk⟩ : ∃ rk, rk = m.machs[a].rack := ⟨_, rfl⟩
  rw [← hrk] at hr x1
  have HO := hide (fun w => of1_prog ((a : Int) + 1) rk ⟨⟨#[]⟩, 0, 0⟩ w)
  clear d hA hb0 x2 hz x0 hrk
  go_enter Tryz.func147, Tryz.ntmps147
  go_wp2_with (first
    | (go_at_call 175; refine HK.out.mono ?_; rintro e w1 ⟨r, rfl, hm, hb⟩; have hlk := HL.out w1 r hm; have HB1 := hide (HB.out.trans (hb.mono HB.out.size)); have hM1 := HM0.out.below hb (by simp); rw [← HA.out] at hM1; obtain ⟨a0, a1, a2, a3, a4, a5, a6, a7, a8, a9, a10⟩ := MB.cells hM1; have al := hM1.lt; rw [HA.out] at a3; have y1 := ((HB1.out.cell (p := ⟨b, off + a * 3 + 1, none⟩) hb1)).trans x1; have hbl := Nat.lt_of_lt_of_le hb1 HB1.out.size; clear hM1 hm hb)
    | (go_at_call 66; refine (exists_prog _ _ _).mono ?_; rintro e w2 ⟨rfl, rfl⟩)
    | (refine (HO.out _).mono ?_; rintro e w3 ⟨rfl, hb3⟩; have HB3 := hide hb3; have q0 := (hb3.cell (p := ⟨w1.heap.size, 0, none⟩) (by simp; omega)); have q1 := (hb3.cell (p := ⟨w1.heap.size, 1, none⟩) (by simp; omega)); simp at q0 q1; clear hb3))
  go_ret
  exact ⟨by rw [HV.out]; rfl, (((HB1.out.alloc HB1.out.size _).alloc (by have := HB1.out.size; simp; omega) _).trans (HB3.out.mono (by have := HB1.out.size; simp; omega)))⟩
end Go.Proofs.YtpggamapmgpjcaaGreatDoor
