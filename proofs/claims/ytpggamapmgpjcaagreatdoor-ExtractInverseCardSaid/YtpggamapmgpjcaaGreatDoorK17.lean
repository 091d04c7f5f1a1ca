/- site.Domain at models whose machines lie in racks; failures.Hits. Conditions: lengths that fit memory. slices.Equal, slices.Contains at ints and strings, as lists. Conditions: lengths that fit memory. The walks of moves.place, source, apart, link, shapes and the closures of fits. Conditions: lengths that fit memory. -/
import Derived.Test.YtpggamapmgpjcaaGreatDoorK16
import Derived.Test.YtpggamapmgpjcaaGreatDoorK09
import Derived.Test.YtpggamapmgpjcaaGreatDoorShelf
import Derived.Test.YtpggamapmgpjcaaGreatDoorK03
import Derived.Deep.Draws
import Derived.Test.YtpggamapmgpjcaaGreatDoorK13

namespace Go.Proofs.YtpggamapmgpjcaaGreatDoor
open Go Go.RowKit Go.Proofs

theorem domain_prog (h : MH) (m : Mod) (by_ mc : Int) (w : World) (d : MD w w.heap.size h m) :
    Calls Tryz.prog 147 #[.agg #[.slice h.s m.sites.length h.sc, .slice h.f m.feeds.length h.fc, .slice h.r m.racks.length h.rc, .slice h.m m.machs.length h.mc, .slice h.l m.links.length h.lc, .slice h.i m.items.length h.ic, .int .i64 m.dark, .int .i64 m.slots, .int .i64 m.reserve, .int .i64 m.failures, .slice h.u m.rules.length h.uc], .int .i64 by_, .int .i64 mc] w (DomR m by_ mc w) := by
  have l0 := d.ml
  have l1 := d.rl
  have l2 := d.fl
  have l3 := d.sl
  have hB : ∀ b : Bool, b = false ∨ b = true := fun b => by cases b <;> simp
  by_cases hk : by_ = 1 ∨ by_ = 2 ∨ by_ = 3 ∨ by_ = 4
  · rcases hB (exI mc m.machs.length) with hx | hx
    · rcases hk with rfl | rfl | rfl | rfl
      · exact domain1_nomach h m mc w l0 l1 l2 l3 hx
      · exact domain2_nomach h m mc w l0 l1 l2 l3 hx
      · exact domain3_nomach h m mc w l0 l1 l2 l3 hx
      · exact domain4_nomach h m mc w l0 l1 l2 l3 hx
    · have hx2 := hx
      simp only [exI, Bool.and_eq_true, decide_eq_true_eq] at hx2
      obtain ⟨a, ha, rfl⟩ : ∃ a : Nat, a < m.machs.length ∧ mc = (a : Int) + 1 := ⟨(mc - 1).toNat, by omega, by omega⟩
      rcases hB (exI m.machs[a].rack m.racks.length) with hr2 | hr2
      · rcases hk with rfl | rfl | rfl | rfl
        · exact domain1_norack h m a w d ha hr2
        · exact domain2_norack h m a w d ha hr2
        · exact domain3_norack h m a w d ha hr2
        · exact domain4_norack h m a w d ha hr2
      have hr3 := hr2
      simp only [exI, Bool.and_eq_true, decide_eq_true_eq] at hr3
      obtain ⟨rk, hrk, er⟩ : ∃ rk : Nat, rk < m.racks.length ∧ m.machs[a].rack = (rk : Int) + 1 := ⟨(m.machs[a].rack - 1).toNat, by omega, by omega⟩
      rcases hk with rfl | rfl | rfl | rfl
      · exact domain1_yes h m a rk w d ha hrk er hx
      · exact domain2_yes h m a rk w d ha hrk er (by rw [← er]; exact hr2)
      · rcases hB (exI m.racks[rk].feed m.feeds.length) with hf | hf
        · exact domain3_out h m a rk w d ha hrk er hf
        · exact domain3_yes h m a rk w d ha hrk er hf
      · rcases hB (exI m.racks[rk].site m.sites.length) with hf | hf
        · exact domain4_out h m a rk w d ha hrk er hf
        · exact domain4_yes h m a rk w d ha hrk er hf
  · exact domain_other h m by_ mc w l0 l1 l2 l3 hk
/-- the two boxes of Hits -/
def S2 (w : World) (M F : Array Value) (W : World) : Prop := Blk W w.heap.size 29 M ∧ Blk W (w.heap.size + 1) 241 F ∧ Below w.heap.size w W
theorem S2.start (w : World) (M F : Array Value) : S2 w M F ((w.alloc (.cells M 29)).alloc (.cells F 241)) :=
  ⟨(Blk.new w _ M).alloc _, by simpa using Blk.new (w.alloc (.cells M 29)) 241 F, ((Below.refl _ _).alloc (Nat.le_refl _) _).alloc (by simp) _⟩
theorem S2.drew {w : World} {M F : Array Value} {W : World} (s : S2 w M F W) : S2 w M F W.drew := ⟨s.1, s.2.1, s.2.2.drew⟩
theorem S2.grow {w : World} {M F : Array Value} {W W2 : World} (s : S2 w M F W) (hb : Below W.heap.size W W2) : S2 w M F W2 := ⟨s.1.below hb s.1.lt, s.2.1.below hb s.2.1.lt, s.2.2.trans (hb.mono s.2.2.size)⟩
theorem S2.cells {w : World} {h : MH} {m : Mod} {a b : Int} {W : World} (s : S2 w #[.slice h.s m.sites.length h.sc, .slice h.f m.feeds.length h.fc, .slice h.r m.racks.length h.rc, .slice h.m m.machs.length h.mc, .slice h.l m.links.length h.lc, .slice h.i m.items.length h.ic, .int .i64 m.dark, .int .i64 m.slots, .int .i64 m.reserve, .int .i64 m.failures, .slice h.u m.rules.length h.uc] #[.int .i64 a, .int .i64 b] W) : (W.cell? ⟨w.heap.size, 0, none⟩ = some (.slice h.s m.sites.length h.sc) ∧ W.cell? ⟨w.heap.size, 1, none⟩ = some (.slice h.f m.feeds.length h.fc) ∧ W.cell? ⟨w.heap.size, 2, none⟩ = some (.slice h.r m.racks.length h.rc) ∧ W.cell? ⟨w.heap.size, 3, none⟩ = some (.slice h.m m.machs.length h.mc) ∧ W.cell? ⟨w.heap.size, 4, none⟩ = some (.slice h.l m.links.length h.lc) ∧ W.cell? ⟨w.heap.size, 5, none⟩ = some (.slice h.i m.items.length h.ic) ∧ W.cell? ⟨w.heap.size, 6, none⟩ = some (.int .i64 m.dark) ∧ W.cell? ⟨w.heap.size, 7, none⟩ = some (.int .i64 m.slots) ∧ W.cell? ⟨w.heap.size, 8, none⟩ = some (.int .i64 m.reserve) ∧ W.cell? ⟨w.heap.size, 9, none⟩ = some (.int .i64 m.failures) ∧ W.cell? ⟨w.heap.size, 10, none⟩ = some (.slice h.u m.rules.length h.uc) ∧ W.cell? ⟨w.heap.size + 1, 0, none⟩ = some (.int .i64 a) ∧ W.cell? ⟨w.heap.size + 1, 1, none⟩ = some (.int .i64 b)) :=
  ⟨s.1.cell 0, s.1.cell 1, s.1.cell 2, s.1.cell 3, s.1.cell 4, s.1.cell 5, s.1.cell 6, s.1.cell 7, s.1.cell 8, s.1.cell 9, s.1.cell 10, s.2.1.cell 0, s.2.1.cell 1⟩
end Go.Proofs.YtpggamapmgpjcaaGreatDoor

namespace Go.Proofs.YtpggamapmgpjcaaGreatDoor
open Go Go.RowKit Go.Proofs

theorem below_drewN (w : World) (n : Nat) : Below w.heap.size w (w.drewN n) := by
  induction n with
  | zero => exact Below.refl _ _
  | succ n ih => exact ih.drew

theorem equal_ints (A1 A2 : Option Addr) (c1 c2 : Nat) (l m : List Int) (w : World) (h1 : Ints w w.heap.size A1 l) (h2 : Ints w w.heap.size A2 m) (hl : l.length ≤ 9223372036854775807) (hm : m.length ≤ 9223372036854775807) :
    Calls Tryz.prog 146 #[.slice A1 l.length c1, .slice A2 m.length c2] w fun e w' => e = .returned (.bool (decide (l = m))) ∧ Below w.heap.size w w' := by
  by_cases hlen : l.length = m.length
  · by_cases hn : l = []
    · subst hn
      have hm0 : m = [] := List.eq_nil_of_length_eq_zero hlen.symm
      subst hm0
      exact (Tryz.slices_Equal_int_empty A1 A2 c1 0 c2 w (by simp)).mono fun e w' ⟨he, hw⟩ => ⟨by rw [he]; rfl, hw ▸ Below.refl _ _⟩
    · have hn2 : m ≠ [] := by intro h; subst h; exact hn (List.eq_nil_of_length_eq_zero hlen)
      obtain ⟨b1, o1, rfl, hb1, hc1⟩ := h1.form hn
      obtain ⟨b2, o2, rfl, hb2, hc2⟩ := h2.form hn2
      refine (Tryz.slices_Equal_int b1 o1 l.length c1 b2 o2 m.length c2 l m w (Nat.le_refl _) (Nat.le_refl _) hl hm hc1 hc2).mono fun e w' ⟨he, q, hw⟩ => ⟨?_, hw ▸ below_drewN w q⟩
      rw [he, List.take_length, List.take_length]
      congr 2
      rw [Bool.eq_iff_iff]; simp
  · refine (Tryz.slices_Equal_int_lens A1 A2 l.length c1 m.length c2 w hlen).mono fun e w' ⟨he, hw⟩ => ⟨?_, hw ▸ Below.refl _ _⟩
    have : ¬ l = m := fun h => hlen (by rw [h])
    rw [he]; simp [this]


theorem Ints.newRow (w : World) (t : TypeId) (l : List Int) : Ints (w.alloc (.cells (l.map (Value.int .i64)).toArray t)) (w.heap.size + 1) (some ⟨w.heap.size, 0, none⟩) l := by
  have := Reads.newRow w (l.map (Value.int .i64)).toArray t l.length 1 (by simp)
  simpa [Ints] using this
theorem contains_ints (A : Option Addr) (c : Nat) (l : List Int) (s : Int) (w : World) (hl : l.length ≤ 9223372036854775807) (h : Ints w w.heap.size A l) :
    Calls Tryz.prog 86 #[.slice A l.length c, .int .i64 s] w fun e w' => e = .returned (.bool (decide (s ∈ l))) ∧ w = w' := by
  by_cases hn : l = []
  · subst hn
    exact (Tryz.slices_Contains_int_empty A c s w).mono fun e w' ⟨he, hw⟩ => ⟨by rw [he]; rfl, hw.symm⟩
  · obtain ⟨b, off, rfl, hb, hc⟩ := h.form hn
    refine (Tryz.slices_Contains_int b off l.length c l s w (Nat.le_refl _) hl hc).mono fun e w' ⟨he, hw⟩ => ⟨?_, hw.symm⟩
    rw [he, List.take_length]
    simp
end Go.Proofs.YtpggamapmgpjcaaGreatDoor

namespace Go.Proofs.YtpggamapmgpjcaaGreatDoor
open Go Go.RowKit Go.Proofs

set_option maxHeartbeats 1000000 in
theorem place_prog (h : MH) (m : Mod) (k : Int) (w : World) (d : MD w w.heap.size h m) :
    Calls Tryz.prog 95 #[.agg #[.slice h.s m.sites.length h.sc, .slice h.f m.feeds.length h.fc, .slice h.r m.racks.length h.rc, .slice h.m m.machs.length h.mc, .slice h.l m.links.length h.lc, .slice h.i m.items.length h.ic, .int .i64 m.dark, .int .i64 m.slots, .int .i64 m.reserve, .int .i64 m.failures, .slice h.u m.rules.length h.uc], .int .i64 k] w (AnsB w (.int .i64 (domI m 4 k))) := by
  have hb := (Below.refl w.heap.size w).alloc (Nat.le_refl _) (.cells #[.slice h.s m.sites.length h.sc, .slice h.f m.feeds.length h.fc, .slice h.r m.racks.length h.rc, .slice h.m m.machs.length h.mc, .slice h.l m.links.length h.lc, .slice h.i m.items.length h.ic, .int .i64 m.dark, .int .i64 m.slots, .int .i64 m.reserve, .int .i64 m.failures, .slice h.u m.rules.length h.uc] 29)
  have HD := hide (domain_prog h m 4 k _ (d.grow hb))
  have HB := hide hb
  clear hb d
  go_enter Tryz.func95, Tryz.ntmps95
  go_wp2_with (go_at_call 147; refine HD.out.mono ?_; rintro e w1 ⟨rfl, hb1⟩)
  go_ret
  exact ⟨rfl, HB.out.trans (hb1.mono HB.out.size)⟩
/-- the three boxes of a move -/
structure F3 (w : World) (M V X : Array Value) (W : World) : Prop where
  m : Blk W w.heap.size 29 M
  v : Blk W (w.heap.size + 1) 51 V
  x : Blk W (w.heap.size + 1 + 1) 91 X
  b : Below w.heap.size w W
theorem F3.start (w : World) (M V X : Array Value) : F3 w M V X (((w.alloc (.cells M 29)).alloc (.cells V 51)).alloc (.cells X 91)) :=
  ⟨((Blk.new w _ M).alloc _).alloc _, (by simpa using (Blk.new (w.alloc (.cells M 29)) 51 V).alloc (.cells X 91)), by simpa using Blk.new ((w.alloc (.cells M 29)).alloc (.cells V 51)) 91 X, (((Below.refl _ _).alloc (Nat.le_refl _) _).alloc (by simp) _).alloc (by simp; omega) _⟩
theorem F3.drew {w : World} {M V X : Array Value} {W : World} (s : F3 w M V X W) : F3 w M V X W.drew := ⟨s.m, s.v, s.x, s.b.drew⟩
theorem F3.grow {w : World} {M V X : Array Value} {W W2 : World} (s : F3 w M V X W) (hb : Below W.heap.size W W2) : F3 w M V X W2 := ⟨s.m.below hb s.m.lt, s.v.below hb s.v.lt, s.x.below hb s.x.lt, s.b.trans (hb.mono s.b.size)⟩
theorem F3.cells {w : World} {h : MH} {m : Mod} {i f t : Int} {x : ItemM} {A : Option Addr} {c : Nat} {W : World} (s : F3 w #[.slice h.s m.sites.length h.sc, .slice h.f m.feeds.length h.fc, .slice h.r m.racks.length h.rc, .slice h.m m.machs.length h.mc, .slice h.l m.links.length h.lc, .slice h.i m.items.length h.ic, .int .i64 m.dark, .int .i64 m.slots, .int .i64 m.reserve, .int .i64 m.failures, .slice h.u m.rules.length h.uc] #[.int .i64 i, .int .i64 f, .int .i64 t] #[.string x.name, .int .i64 x.kind, .int .i64 x.count, .int .i64 x.load, .int .i64 x.size, .int .i64 x.share, .slice A x.on.length c] W) :
    (W.cell? ⟨w.heap.size, 0, none⟩ = some (.slice h.s m.sites.length h.sc) ∧ W.cell? ⟨w.heap.size, 1, none⟩ = some (.slice h.f m.feeds.length h.fc) ∧ W.cell? ⟨w.heap.size, 2, none⟩ = some (.slice h.r m.racks.length h.rc) ∧ W.cell? ⟨w.heap.size, 3, none⟩ = some (.slice h.m m.machs.length h.mc) ∧ W.cell? ⟨w.heap.size, 4, none⟩ = some (.slice h.l m.links.length h.lc) ∧ W.cell? ⟨w.heap.size, 5, none⟩ = some (.slice h.i m.items.length h.ic) ∧ W.cell? ⟨w.heap.size, 6, none⟩ = some (.int .i64 m.dark) ∧ W.cell? ⟨w.heap.size, 7, none⟩ = some (.int .i64 m.slots) ∧ W.cell? ⟨w.heap.size, 8, none⟩ = some (.int .i64 m.reserve) ∧ W.cell? ⟨w.heap.size, 9, none⟩ = some (.int .i64 m.failures) ∧ W.cell? ⟨w.heap.size, 10, none⟩ = some (.slice h.u m.rules.length h.uc)) ∧ (W.cell? ⟨w.heap.size + 1, 0, none⟩ = some (.int .i64 i) ∧ W.cell? ⟨w.heap.size + 1, 1, none⟩ = some (.int .i64 f) ∧ W.cell? ⟨w.heap.size + 1, 2, none⟩ = some (.int .i64 t)) ∧
      (W.cell? ⟨w.heap.size + 1 + 1, 0, none⟩ = some (.string x.name) ∧ W.cell? ⟨w.heap.size + 1 + 1, 1, none⟩ = some (.int .i64 x.kind) ∧ W.cell? ⟨w.heap.size + 1 + 1, 2, none⟩ = some (.int .i64 x.count) ∧ W.cell? ⟨w.heap.size + 1 + 1, 3, none⟩ = some (.int .i64 x.load) ∧ W.cell? ⟨w.heap.size + 1 + 1, 4, none⟩ = some (.int .i64 x.size) ∧ W.cell? ⟨w.heap.size + 1 + 1, 5, none⟩ = some (.int .i64 x.share) ∧ W.cell? ⟨w.heap.size + 1 + 1, 6, none⟩ = some (.slice A x.on.length c)) :=
  ⟨MB.cells s.m, ⟨s.v.cell 0, s.v.cell 1, s.v.cell 2⟩, ⟨s.x.cell 0, s.x.cell 1, s.x.cell 2, s.x.cell 3, s.x.cell 4, s.x.cell 5, s.x.cell 6⟩⟩
theorem headD_at {l : List Int} (h : 0 < l.length) : l.headD 0 = l[0] := by
  cases l with
  | nil => simp at h
  | cons a l => rfl
set_option maxRecDepth 100000 in
set_option maxHeartbeats 1000000 in
theorem source_prog (x : ItemM) (A : Option Addr) (c : Nat) (i f t : Int) (w : World) (hI : Ints w w.heap.size A x.on) (h0 : 0 < x.on.length) (hl : x.on.length ≤ 9223372036854775807) :
    Calls Tryz.prog 150 #[.agg #[.int .i64 i, .int .i64 f, .int .i64 t], .agg #[.string x.name, .int .i64 x.kind, .int .i64 x.count, .int .i64 x.load, .int .i64 x.size, .int .i64 x.share, .slice A x.on.length c]] w (AnsB w (.int .i64 (srcI x f))) := by
  have hb1 := (Below.refl w.heap.size w).alloc (Nat.le_refl _) (.cells #[.int .i64 i, .int .i64 f, .int .i64 t] 51)
  have hb2 := hb1.alloc hb1.size (.cells #[.string x.name, .int .i64 x.kind, .int .i64 x.count, .int .i64 x.load, .int .i64 x.size, .int .i64 x.share, .slice A x.on.length c] 91)
  have HB := hide hb2
  by_cases hf : f = 0
  · have g : (f != 0) = false := by simpa using hf
    have HV := hide (show srcI x f = x.on[0] by rw [srcI, if_pos hf, headD_at h0])
    obtain ⟨b, off, hA, hb, hc⟩ := int_at (hI.grow hb2) h0
    have h0I : (0 : Int) < (x.on.length : Int) := by omega
    obtain ⟨v, hv⟩ : ∃ v, v = x.on[0] := ⟨_, rfl⟩
    rw [← hv] at HV hc
    rw [Nat.add_zero] at hc
    subst hA
    clear hf hb1 hb2 hI hv
    go_enter Tryz.func150, Tryz.ntmps150
    go_wp2_with fail
    go_ret
    exact ⟨ret_congr (by rw [HV.out]; rfl), HB.out⟩
  · have g : (f != 0) = true := by simpa using hf
    have HV := hide (show srcI x f = f by rw [srcI, if_neg hf])
    clear hf hb1 hb2 hI
    go_enter Tryz.func150, Tryz.ntmps150
    go_wp2_with fail
    go_ret
    exact ⟨ret_congr (by rw [HV.out]; rfl), HB.out⟩
/-- what apart and link need of a model and an item -/
structure ItC (w : World) (h : MH) (m : Mod) (x : ItemM) (A : Option Addr) : Prop where
  d : MD w w.heap.size h m
  i : Ints w w.heap.size A x.on
  p : 0 < x.on.length
  l : x.on.length ≤ 9223372036854775807
theorem ItC.grow {w w' : World} {h : MH} {m : Mod} {x : ItemM} {A : Option Addr} (s : ItC w h m x A) (hb : Below w.heap.size w w') : ItC w' h m x A := ⟨s.d.grow hb, s.i.grow hb, s.p, s.l⟩
set_option maxRecDepth 100000 in
set_option maxHeartbeats 4000000 in
theorem apart_prog (h : MH) (m : Mod) (x : ItemM) (A : Option Addr) (c : Nat) (i f t : Int) (w : World) (K : ItC w h m x A) :
    Calls Tryz.prog 97 #[.agg #[.slice h.s m.sites.length h.sc, .slice h.f m.feeds.length h.fc, .slice h.r m.racks.length h.rc, .slice h.m m.machs.length h.mc, .slice h.l m.links.length h.lc, .slice h.i m.items.length h.ic, .int .i64 m.dark, .int .i64 m.slots, .int .i64 m.reserve, .int .i64 m.failures, .slice h.u m.rules.length h.uc], .agg #[.int .i64 i, .int .i64 f, .int .i64 t], .agg #[.string x.name, .int .i64 x.kind, .int .i64 x.count, .int .i64 x.load, .int .i64 x.size, .int .i64 x.share, .slice A x.on.length c]] w (AnsB w (.bool (apartB m x f t))) := by
  have hs := F3.start w #[.slice h.s m.sites.length h.sc, .slice h.f m.feeds.length h.fc, .slice h.r m.racks.length h.rc, .slice h.m m.machs.length h.mc, .slice h.l m.links.length h.lc, .slice h.i m.items.length h.ic, .int .i64 m.dark, .int .i64 m.slots, .int .i64 m.reserve, .int .i64 m.failures, .slice h.u m.rules.length h.uc] #[.int .i64 i, .int .i64 f, .int .i64 t] #[.string x.name, .int .i64 x.kind, .int .i64 x.count, .int .i64 x.load, .int .i64 x.size, .int .i64 x.share, .slice A x.on.length c]
  have HS := hide hs
  have HV := hide (show apartB m x f t = ((t != 0) && (decide (0 < x.size) && (domI m 4 (srcI x f) != domI m 4 t))) by simp [apartB, bne]; rfl)
  have HP := hide (fun (k : Int) W (hW : Below w.heap.size w W) => place_prog h m k W (K.d.grow hW))
  have HSR := hide (fun W (hW : Below w.heap.size w W) => source_prog x A c i f t W (K.i.grow hW) K.p K.l)
  obtain ⟨⟨a0, a1, a2, a3, a4, a5, a6, a7, a8, a9, a10⟩, ⟨b0, b1, b2⟩, e0, e1, e2, e3, e4, e5, e6⟩ := F3.cells hs
  have lt1 := hs.m.lt
  have lt2 := hs.v.lt
  have lt3 := hs.x.lt
  have hU : undef = Value.tuple #[] := rfl
  clear K
  cases g : (t != 0)
  · rw [g] at HV
    clear hs
    go_enter Tryz.func97, Tryz.ntmps97
    go_wp2_with fail
    go_quiet (fail)
    go_wp2_with fail
    go_ret
    exact ⟨ret_congr (by rw [HV.out]; rfl), by first | exact HS.out.b | exact below_drawn HS.out.b _⟩
  · by_cases hz : 0 < x.size
    · rw [g, decide_eq_true hz] at HV
      obtain ⟨s1, hs1⟩ : ∃ s, s = srcI x f := ⟨_, rfl⟩
      rw [← hs1] at HV HSR
      have HP1 := hide (HP.out s1)
      have HP2 := hide (HP.out t)
      obtain ⟨p1, hp1⟩ : ∃ s, s = domI m 4 s1 := ⟨_, rfl⟩
      obtain ⟨p2, hp2⟩ : ∃ s, s = domI m 4 t := ⟨_, rfl⟩
      rw [← hp1] at HV HP1
      rw [← hp2] at HV HP2
      clear hs hs1 hp1 hp2 HP a0 a1 a2 a3 a4 a5 a6 a7 a8 a9 a10 b0 b1 b2 e0 e1 e2 e3 e4 e5 e6 lt1 lt2 lt3
      go_enter Tryz.func97, Tryz.ntmps97
      go_wp2_with fail
      go_region_held3 (fun W => ((W.cell? ⟨w.heap.size, 0, none⟩ = some (.slice h.s m.sites.length h.sc) ∧ W.cell? ⟨w.heap.size, 1, none⟩ = some (.slice h.f m.feeds.length h.fc) ∧ W.cell? ⟨w.heap.size, 2, none⟩ = some (.slice h.r m.racks.length h.rc) ∧ W.cell? ⟨w.heap.size, 3, none⟩ = some (.slice h.m m.machs.length h.mc) ∧ W.cell? ⟨w.heap.size, 4, none⟩ = some (.slice h.l m.links.length h.lc) ∧ W.cell? ⟨w.heap.size, 5, none⟩ = some (.slice h.i m.items.length h.ic) ∧ W.cell? ⟨w.heap.size, 6, none⟩ = some (.int .i64 m.dark) ∧ W.cell? ⟨w.heap.size, 7, none⟩ = some (.int .i64 m.slots) ∧ W.cell? ⟨w.heap.size, 8, none⟩ = some (.int .i64 m.reserve) ∧ W.cell? ⟨w.heap.size, 9, none⟩ = some (.int .i64 m.failures) ∧ W.cell? ⟨w.heap.size, 10, none⟩ = some (.slice h.u m.rules.length h.uc)) ∧ (W.cell? ⟨w.heap.size + 1, 0, none⟩ = some (.int .i64 i) ∧ W.cell? ⟨w.heap.size + 1, 1, none⟩ = some (.int .i64 f) ∧ W.cell? ⟨w.heap.size + 1, 2, none⟩ = some (.int .i64 t)) ∧ (W.cell? ⟨w.heap.size + 1 + 1, 0, none⟩ = some (.string x.name) ∧ W.cell? ⟨w.heap.size + 1 + 1, 1, none⟩ = some (.int .i64 x.kind) ∧ W.cell? ⟨w.heap.size + 1 + 1, 2, none⟩ = some (.int .i64 x.count) ∧ W.cell? ⟨w.heap.size + 1 + 1, 3, none⟩ = some (.int .i64 x.load) ∧ W.cell? ⟨w.heap.size + 1 + 1, 4, none⟩ = some (.int .i64 x.size) ∧ W.cell? ⟨w.heap.size + 1 + 1, 5, none⟩ = some (.int .i64 x.share) ∧ W.cell? ⟨w.heap.size + 1 + 1, 6, none⟩ = some (.slice A x.on.length c))) ∧ F3 w #[.slice h.s m.sites.length h.sc, .slice h.f m.feeds.length h.fc, .slice h.r m.racks.length h.rc, .slice h.m m.machs.length h.mc, .slice h.l m.links.length h.lc, .slice h.i m.items.length h.ic, .int .i64 m.dark, .int .i64 m.slots, .int .i64 m.reserve, .int .i64 m.failures, .slice h.u m.rules.length h.uc] #[.int .i64 i, .int .i64 f, .int .i64 t] #[.string x.name, .int .i64 x.kind, .int .i64 x.count, .int .i64 x.load, .int .i64 x.size, .int .i64 x.share, .slice A x.on.length c] W)
        ((with_reducible (first | (go_keep; done) | exact ⟨F3.cells HS.out.drew, HS.out.drew⟩ | exact ⟨F3.cells c3, c3⟩ | exact ⟨F3.cells c2, c2⟩ | exact ⟨F3.cells c1, c1⟩)))
        ((first
          | (go_at_call 150; have hH := HS.out.drew; (with_reducible refine (HSR.out _ (F3.b hH)).mono ?_); rintro e w2 ⟨rfl, hb⟩; have c1 := F3.grow hH hb; clear hb hH)
          | (go_at_call 95; (with_reducible refine (HP1.out _ (F3.b c1)).mono ?_); rintro e w3 ⟨rfl, hb⟩; have c2 := F3.grow c1 hb; clear hb)
          | (go_at_call 95; (with_reducible refine (HP2.out _ (F3.b c2)).mono ?_); rintro e w4 ⟨rfl, hb⟩; have c3 := F3.grow c2 hb; clear hb)))
      go_wp2_with fail
      go_ret
      exact ⟨ret_congr (by rw [HV.out]; rfl), c3.b⟩
    · rw [decide_eq_false hz, Bool.false_and, Bool.and_false] at HV
      have hd : decide ((0 : Int) < x.size) = false := decide_eq_false hz
      clear hz
      clear hs
      go_enter Tryz.func97, Tryz.ntmps97
      go_wp2_with fail
      go_quiet (fail)
      go_wp2_with fail
      go_ret
      exact ⟨ret_congr (by rw [HV.out]; rfl), by first | exact HS.out.b | exact below_drawn HS.out.b _⟩
end Go.Proofs.YtpggamapmgpjcaaGreatDoor
