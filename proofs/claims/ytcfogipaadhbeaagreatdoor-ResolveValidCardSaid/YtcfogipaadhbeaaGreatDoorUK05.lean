/- A part of the claim: see its last text. -/
import Derived.Test.YtcfogipaadhbeaaGreatDoorUK04
import Derived.Test.YtcfogipaadhbeaaGreatDoorUK03
import Derived.Test.YtcfogipaadhbeaaGreatDoorUK01
import Derived.RangeFuncRecord

set_option maxRecDepth 100000
set_option maxHeartbeats 16000000
namespace Go.Proofs.YtcfogipaadhbeaaGreatDoor
open Go Go.RowKit Go.Proofs
abbrev ItV := ItemM × Option Addr × Nat
abbrev RuV := RuleM × Option Addr × Nat
def elRack : El RackM := ⟨69, 3, fun x => [.string x.name, .int .i64 x.site, .int .i64 x.feed], fun _ => rfl, by intro x u hu; simp at hu; rcases hu with rfl | rfl | rfl <;> rfl, by decide⟩
def elMach : El MachM := ⟨71, 3, fun x => [.string x.name, .int .i64 x.rack, .int .i64 x.cap], fun _ => rfl, by intro x u hu; simp at hu; rcases hu with rfl | rfl | rfl <;> rfl, by decide⟩
def elLink : El LinkM := ⟨73, 3, fun x => [.int .i64 x.a, .int .i64 x.b, .int .i64 x.cap], fun _ => rfl, by intro x u hu; simp at hu; rcases hu with rfl | rfl | rfl <;> rfl, by decide⟩
def elItem : El ItV := ⟨49, 7, fun x => [.string x.1.name, .int .i64 x.1.kind, .int .i64 x.1.count, .int .i64 x.1.load, .int .i64 x.1.size, .int .i64 x.1.share, .slice x.2.1 x.1.on.length x.2.2], fun _ => rfl, by intro x u hu; simp at hu; rcases hu with rfl | rfl | rfl | rfl | rfl | rfl | rfl <;> rfl, by decide⟩
def elRule : El RuV := ⟨62, 7, fun x => [.int .i64 x.1.kind, .int .i64 x.1.item, .int .i64 x.1.other, .int .i64 x.1.n, .int .i64 x.1.by_, .bool x.1.always, .slice x.2.1 x.1.machines.length x.2.2], fun _ => rfl, by intro x u hu; simp at hu; rcases hu with rfl | rfl | rfl | rfl | rfl | rfl | rfl <;> rfl, by decide⟩
theorem okRack : ElOk elRack 26 (.agg #[.string ⟨#[]⟩, .int .i64 0, .int .i64 0]) 32 := ⟨by kernel_rfl, Tryz.underlying26, rfl, by decide⟩
theorem okMach : ElOk elMach 27 (.agg #[.string ⟨#[]⟩, .int .i64 0, .int .i64 0]) 32 := ⟨by kernel_rfl, Tryz.underlying27, rfl, by decide⟩
theorem okLink : ElOk elLink 28 (.agg #[.int .i64 0, .int .i64 0, .int .i64 0]) 24 := ⟨by kernel_rfl, Tryz.underlying28, rfl, by decide⟩
theorem okItem : ElOk elItem 29 (.agg #[.string ⟨#[]⟩, .int .i64 0, .int .i64 0, .int .i64 0, .int .i64 0, .int .i64 0, .slice none 0 0]) 80 := ⟨by kernel_rfl, Tryz.underlying29, rfl, by decide⟩
theorem okRule : ElOk elRule 30 (.agg #[.int .i64 0, .int .i64 0, .int .i64 0, .int .i64 0, .int .i64 0, .bool false, .slice none 0 0]) 72 := ⟨by kernel_rfl, Tryz.underlying30, rfl, by decide⟩
def RowT (w : World) (row : Option Nat) (T : TypeId) : Prop := ∀ g, row = some g → ∃ cs, Blk w g T cs
theorem RowT.none_ (w : World) (T : TypeId) : RowT w none T := fun g e => by cases e
theorem RowT.own {w : World} {B n s : Nat} {T : TypeId} {v : Value} {x : List Value} (h : w.ownsRow B T s v n x) : RowT w v.ownBlock T := fun g e => by
 rcases h.2 with ⟨rfl, _⟩ | ⟨g2, cap, cur, rfl, _, hh, _⟩
 · cases e
 · obtain rfl : g2 = g := Option.some.inj e
   exact ⟨cur, hh⟩
theorem RowT.ne {w : World} {B n s : Nat} {T e : TypeId} {row : Option Nat} {v : Value} {x : List Value} (h : RowT w row T) (ho : w.ownsRow B e s v n x) (hne : e ≠ T) : v.ownBlock = none ∨ v.ownBlock ≠ row := by
 rcases ho.2 with ⟨rfl, _⟩ | ⟨g, cap, cur, rfl, _, hh, _⟩
 · exact .inl rfl
 · refine .inr fun e2 => ?_
   obtain ⟨cs, hb⟩ := h g e2.symm
   rw [Blk] at hb
   have := hb.symm.trans hh
   simp at this
   exact hne this.2.symm
structure MV where
 s : Value
 f : Value
 r : Value
 m : Value
 l : Value
 i : Value
 u : Value
def SmallM (m : Mod) : Prop := (∀ s ∈ m.sT, s.size ≤ 16384) ∧ (∀ s ∈ m.fT, s.size ≤ 16384) ∧ (∀ x ∈ m.rT, x.name.size ≤ 16384) ∧ (∀ x ∈ m.mT, x.name.size ≤ 16384) ∧ (∀ x ∈ m.iT, x.name.size ≤ 16384)
structure RM (B : Nat) (w : World) (V : MV) (m : Mod) : Prop where
 s : OwnS B w V.s m.sT
 f : OwnS B w V.f m.fT
 sf : V.s.ownBlock = none ∨ V.s.ownBlock ≠ V.f.ownBlock
 r : OwnE_ elRack B w V.r m.rT
 mc : OwnE_ elMach B w V.m m.mT
 l : OwnE_ elLink B w V.l m.lT
 i : ∃ L : List ItV, L.map (·.1) = m.iT ∧ OwnE_ elItem B w V.i L ∧ ∀ x ∈ L, OwnI B w (.slice x.2.1 x.1.on.length x.2.2) x.1.on
 u : ∃ L : List RuV, L.map (·.1) = m.uT ∧ OwnE_ elRule B w V.u L ∧ ∀ x ∈ L, OwnI B w (.slice x.2.1 x.1.machines.length x.2.2) x.1.machines
 small : SmallM m
def nilV : MV := ⟨.slice none 0 0, .slice none 0 0, .slice none 0 0, .slice none 0 0, .slice none 0 0, .slice none 0 0, .slice none 0 0⟩
theorem RM.zero (B : Nat) (w : World) : RM B w nilV zeroM :=
 ⟨OwnS.nil_ B w, OwnS.nil_ B w, .inl rfl, OwnE_.nil_ B w, OwnE_.nil_ B w, OwnE_.nil_ B w, ⟨[], rfl, OwnE_.nil_ B w, fun x hx => absurd hx (by simp)⟩, ⟨[], rfl, OwnE_.nil_ B w, fun x hx => absurd hx (by simp)⟩,
   fun x hx => absurd hx (by simp [zeroM]), fun x hx => absurd hx (by simp [zeroM]), fun x hx => absurd hx (by simp [zeroM]), fun x hx => absurd hx (by simp [zeroM]), fun x hx => absurd hx (by simp [zeroM])⟩
section
variable {B : Nat} {w w' : World} {V : MV} {m : Mod} {row : Option Nat} {T : TypeId}
theorem sf_flip {a b : Option Nat} (h : a = none ∨ a ≠ b) : b = none ∨ b ≠ a := by
 rcases h with h | h
 · cases b with
   | none => exact .inl rfl
   | some k => exact .inr (by rw [h]; simp)
 · exact .inr fun e => h e.symm
theorem items_kept {L : List ItV} (h : ∀ x ∈ L, OwnI B w (.slice x.2.1 x.1.on.length x.2.2) x.1.on) (hg : w.grownBy w' row) (hT : RowT w row T) (hne : 3 ≠ T) : ∀ x ∈ L, OwnI B w' (.slice x.2.1 x.1.on.length x.2.2) x.1.on :=
 fun x hx => (h x hx).kept hg (hT.ne (h x hx) hne)
theorem rules_kept {L : List RuV} (h : ∀ x ∈ L, OwnI B w (.slice x.2.1 x.1.machines.length x.2.2) x.1.machines) (hg : w.grownBy w' row) (hT : RowT w row T) (hne : 3 ≠ T) : ∀ x ∈ L, OwnI B w' (.slice x.2.1 x.1.machines.length x.2.2) x.1.machines :=
 fun x hx => (h x hx).kept hg (hT.ne (h x hx) hne)
theorem RM.kept (h : RM B w V m) (hg : w.grownBy w' row) (hT : RowT w row T) (hne : T ∉ [9, 69, 71, 73, 49, 62, 3]) : RM B w' V m := by
 simp only [List.mem_cons, not_or, List.not_mem_nil, not_false_eq_true, and_true] at hne
 obtain ⟨n1, n2, n3, n4, n5, n6, n7⟩ := hne
 obtain ⟨LI, i1, i2, i3⟩ := h.i
 obtain ⟨LU, u1, u2, u3⟩ := h.u
 exact ⟨h.s.kept hg (hT.ne h.s (Ne.symm n1)), h.f.kept hg (hT.ne h.f (Ne.symm n1)), h.sf, h.r.kept hg (hT.ne h.r (Ne.symm n2)), h.mc.kept hg (hT.ne h.mc (Ne.symm n3)), h.l.kept hg (hT.ne h.l (Ne.symm n4)),
  ⟨LI, i1, i2.kept hg (hT.ne i2 (Ne.symm n5)), items_kept i3 hg hT (Ne.symm n7)⟩, ⟨LU, u1, u2.kept hg (hT.ne u2 (Ne.symm n6)), rules_kept u3 hg hT (Ne.symm n7)⟩, h.small⟩
theorem RM.below (h : RM B w V m) (hb : Below w.heap.size w w') : RM B w' V m := h.kept (T := 4) (grown_of_below hb none) (RowT.none_ _ _) (by decide)
theorem RM.put {g : Nat} {T : TypeId} {cs : Array Value} (h : RM B w V m) (hb : Blk w g T cs) (hne : T ∉ [9, 69, 71, 73, 49, 62, 3]) (i : Nat) (u : Value) : RM B (w.setCell ⟨g, i, none⟩ u) V m :=
 h.kept (row := some g) (T := T) (But.set_ (B := w.heap.size) w i u).grown (fun k e => by cases e; exact ⟨cs, hb⟩) hne
theorem RM.site {v : Value} {s : ByteArray} (h : RM B w V m) (ho : OwnS B w' v (m.sT ++ [s])) (hg : w.grownBy w' V.s.ownBlock) (hv : v.ownBlock = V.s.ownBlock ∨ v.ownBlock = some w.heap.size) (hz : s.size ≤ 16384) :
    RM B w' ⟨v, V.f, V.r, V.m, V.l, V.i, V.u⟩ ⟨m.sT ++ [s], m.fT, m.rT, m.mT, m.lT, m.iT, m.dT, m.oT, m.vT, m.aT, m.uT⟩ := by
 have hT := RowT.own h.s
 obtain ⟨LI, i1, i2, i3⟩ := h.i
 obtain ⟨LU, u1, u2, u3⟩ := h.u
 obtain ⟨z1, z2, z3, z4, z5⟩ := h.small
 refine ⟨ho, h.f.kept hg (sf_flip h.sf), ?_, h.r.kept hg (hT.ne h.r (by decide)), h.mc.kept hg (hT.ne h.mc (by decide)), h.l.kept hg (hT.ne h.l (by decide)),
  ⟨LI, i1, i2.kept hg (hT.ne i2 (by decide)), items_kept i3 hg hT (by decide)⟩, ⟨LU, u1, u2.kept hg (hT.ne u2 (by decide)), rules_kept u3 hg hT (by decide)⟩, fun x hx => ?_, z2, z3, z4, z5⟩
 · rcases hv with e | e
   · rw [e]; exact h.sf
   · refine .inr ?_
     rw [e]
     intro e2
     have := h.f.lt _ e2.symm
     omega
 · rcases List.mem_append.1 hx with hx | hx
   · exact z1 x hx
   · rw [List.mem_singleton.1 hx]; exact hz
theorem RM.feed {v : Value} {s : ByteArray} (h : RM B w V m) (ho : OwnS B w' v (m.fT ++ [s])) (hg : w.grownBy w' V.f.ownBlock) (hv : v.ownBlock = V.f.ownBlock ∨ v.ownBlock = some w.heap.size) (hz : s.size ≤ 16384) :
    RM B w' ⟨V.s, v, V.r, V.m, V.l, V.i, V.u⟩ ⟨m.sT, m.fT ++ [s], m.rT, m.mT, m.lT, m.iT, m.dT, m.oT, m.vT, m.aT, m.uT⟩ := by
 have hT := RowT.own h.f
 obtain ⟨LI, i1, i2, i3⟩ := h.i
 obtain ⟨LU, u1, u2, u3⟩ := h.u
 obtain ⟨z1, z2, z3, z4, z5⟩ := h.small
 refine ⟨h.s.kept hg h.sf, ho, ?_, h.r.kept hg (hT.ne h.r (by decide)), h.mc.kept hg (hT.ne h.mc (by decide)), h.l.kept hg (hT.ne h.l (by decide)),
  ⟨LI, i1, i2.kept hg (hT.ne i2 (by decide)), items_kept i3 hg hT (by decide)⟩, ⟨LU, u1, u2.kept hg (hT.ne u2 (by decide)), rules_kept u3 hg hT (by decide)⟩, z1, fun x hx => ?_, z3, z4, z5⟩
 · refine sf_flip ?_
   rcases hv with e | e
   · rw [e]; exact sf_flip h.sf
   · refine .inr ?_
     rw [e]
     intro e2
     have := h.s.lt _ e2.symm
     omega
 · rcases List.mem_append.1 hx with hx | hx
   · exact z2 x hx
   · rw [List.mem_singleton.1 hx]; exact hz
theorem RM.rack {v : Value} {x : RackM} (h : RM B w V m) (ho : OwnE_ elRack B w' v (m.rT ++ [x])) (hg : w.grownBy w' V.r.ownBlock) (hz : x.name.size ≤ 16384) :
    RM B w' ⟨V.s, V.f, v, V.m, V.l, V.i, V.u⟩ ⟨m.sT, m.fT, m.rT ++ [x], m.mT, m.lT, m.iT, m.dT, m.oT, m.vT, m.aT, m.uT⟩ := by
 have hT := RowT.own h.r
 obtain ⟨LI, i1, i2, i3⟩ := h.i
 obtain ⟨LU, u1, u2, u3⟩ := h.u
 obtain ⟨z1, z2, z3, z4, z5⟩ := h.small
 refine ⟨h.s.kept hg (hT.ne h.s (by decide)), h.f.kept hg (hT.ne h.f (by decide)), h.sf, ho, h.mc.kept hg (hT.ne h.mc (by decide)), h.l.kept hg (hT.ne h.l (by decide)),
  ⟨LI, i1, i2.kept hg (hT.ne i2 (by decide)), items_kept i3 hg hT (by decide)⟩, ⟨LU, u1, u2.kept hg (hT.ne u2 (by decide)), rules_kept u3 hg hT (by decide)⟩, z1, z2, fun y hy => ?_, z4, z5⟩
 rcases List.mem_append.1 hy with hy | hy
 · exact z3 y hy
 · rw [List.mem_singleton.1 hy]; exact hz
theorem RM.mach {v : Value} {x : MachM} (h : RM B w V m) (ho : OwnE_ elMach B w' v (m.mT ++ [x])) (hg : w.grownBy w' V.m.ownBlock) (hz : x.name.size ≤ 16384) :
    RM B w' ⟨V.s, V.f, V.r, v, V.l, V.i, V.u⟩ ⟨m.sT, m.fT, m.rT, m.mT ++ [x], m.lT, m.iT, m.dT, m.oT, m.vT, m.aT, m.uT⟩ := by
 have hT := RowT.own h.mc
 obtain ⟨LI, i1, i2, i3⟩ := h.i
 obtain ⟨LU, u1, u2, u3⟩ := h.u
 obtain ⟨z1, z2, z3, z4, z5⟩ := h.small
 refine ⟨h.s.kept hg (hT.ne h.s (by decide)), h.f.kept hg (hT.ne h.f (by decide)), h.sf, h.r.kept hg (hT.ne h.r (by decide)), ho, h.l.kept hg (hT.ne h.l (by decide)),
  ⟨LI, i1, i2.kept hg (hT.ne i2 (by decide)), items_kept i3 hg hT (by decide)⟩, ⟨LU, u1, u2.kept hg (hT.ne u2 (by decide)), rules_kept u3 hg hT (by decide)⟩, z1, z2, z3, fun y hy => ?_, z5⟩
 rcases List.mem_append.1 hy with hy | hy
 · exact z4 y hy
 · rw [List.mem_singleton.1 hy]; exact hz
theorem RM.link {v : Value} {x : LinkM} (h : RM B w V m) (ho : OwnE_ elLink B w' v (m.lT ++ [x])) (hg : w.grownBy w' V.l.ownBlock) :
    RM B w' ⟨V.s, V.f, V.r, V.m, v, V.i, V.u⟩ ⟨m.sT, m.fT, m.rT, m.mT, m.lT ++ [x], m.iT, m.dT, m.oT, m.vT, m.aT, m.uT⟩ := by
 have hT := RowT.own h.l
 obtain ⟨LI, i1, i2, i3⟩ := h.i
 obtain ⟨LU, u1, u2, u3⟩ := h.u
 exact ⟨h.s.kept hg (hT.ne h.s (by decide)), h.f.kept hg (hT.ne h.f (by decide)), h.sf, h.r.kept hg (hT.ne h.r (by decide)), h.mc.kept hg (hT.ne h.mc (by decide)), ho,
  ⟨LI, i1, i2.kept hg (hT.ne i2 (by decide)), items_kept i3 hg hT (by decide)⟩, ⟨LU, u1, u2.kept hg (hT.ne u2 (by decide)), rules_kept u3 hg hT (by decide)⟩, h.small⟩
theorem RM.item {v : Value} {x : ItV} {L : List ItV} (h : RM B w V m) (hL : L.map (·.1) = m.iT) (hI : ∀ y ∈ L, OwnI B w (.slice y.2.1 y.1.on.length y.2.2) y.1.on) (ho : OwnE_ elItem B w' v (L ++ [x])) (hg : w.grownBy w' V.i.ownBlock) (hT : RowT w V.i.ownBlock 49)
    (hx : OwnI B w (.slice x.2.1 x.1.on.length x.2.2) x.1.on) (hz : x.1.name.size ≤ 16384) :
    RM B w' ⟨V.s, V.f, V.r, V.m, V.l, v, V.u⟩ ⟨m.sT, m.fT, m.rT, m.mT, m.lT, m.iT ++ [x.1], m.dT, m.oT, m.vT, m.aT, m.uT⟩ := by
 obtain ⟨LU, u1, u2, u3⟩ := h.u
 obtain ⟨z1, z2, z3, z4, z5⟩ := h.small
 refine ⟨h.s.kept hg (hT.ne h.s (by decide)), h.f.kept hg (hT.ne h.f (by decide)), h.sf, h.r.kept hg (hT.ne h.r (by decide)), h.mc.kept hg (hT.ne h.mc (by decide)), h.l.kept hg (hT.ne h.l (by decide)),
  ⟨L ++ [x], by rw [List.map_append, hL]; rfl, ho, items_kept (L := L ++ [x]) (fun y hy => ?_) hg hT (by decide)⟩, ⟨LU, u1, u2.kept hg (hT.ne u2 (by decide)), rules_kept u3 hg hT (by decide)⟩, z1, z2, z3, z4, fun y hy => ?_⟩
 · rcases List.mem_append.1 hy with hy | hy
   · exact hI y hy
   · rw [List.mem_singleton.1 hy]; exact hx
 · rcases List.mem_append.1 hy with hy | hy
   · exact z5 y hy
   · rw [List.mem_singleton.1 hy]; exact hz
theorem RM.rule {v : Value} {x : RuV} {L : List RuV} (h : RM B w V m) (hL : L.map (·.1) = m.uT) (hI : ∀ y ∈ L, OwnI B w (.slice y.2.1 y.1.machines.length y.2.2) y.1.machines) (ho : OwnE_ elRule B w' v (L ++ [x])) (hg : w.grownBy w' V.u.ownBlock) (hT : RowT w V.u.ownBlock 62)
    (hx : OwnI B w (.slice x.2.1 x.1.machines.length x.2.2) x.1.machines) :
    RM B w' ⟨V.s, V.f, V.r, V.m, V.l, V.i, v⟩ ⟨m.sT, m.fT, m.rT, m.mT, m.lT, m.iT, m.dT, m.oT, m.vT, m.aT, m.uT ++ [x.1]⟩ := by
 obtain ⟨LI, i1, i2, i3⟩ := h.i
 refine ⟨h.s.kept hg (hT.ne h.s (by decide)), h.f.kept hg (hT.ne h.f (by decide)), h.sf, h.r.kept hg (hT.ne h.r (by decide)), h.mc.kept hg (hT.ne h.mc (by decide)), h.l.kept hg (hT.ne h.l (by decide)),
  ⟨LI, i1, i2.kept hg (hT.ne i2 (by decide)), items_kept i3 hg hT (by decide)⟩, ⟨L ++ [x], by rw [List.map_append, hL]; rfl, ho, rules_kept (L := L ++ [x]) (fun y hy => ?_) hg hT (by decide)⟩, h.small⟩
 rcases List.mem_append.1 hy with hy | hy
 · exact hI y hy
 · rw [List.mem_singleton.1 hy]; exact hx
theorem Rows.of_rd {α β : Type} {E : El α} {R : RelK β} (g : α → β) {A : Option Addr} {L : List α} (h : RdE E w A L) (hR : ∀ x ∈ L, R.R w w.heap.size (g x) (E.f x)) : Rows R E.sz w w.heap.size A (L.map g) := fun i hi => by
 have hi2 : i < L.length := by simpa using hi
 obtain ⟨b, off, e, hb, hc⟩ := h i hi2
 exact ⟨b, off, E.f L[i], e, hb, E.len _, by rw [List.getElem_map]; exact hR _ (List.getElem_mem _), hc⟩
theorem own_rd {α : Type} {E : El α} {v : Value} {l : List α} (h : OwnE_ E B w v l) : ∃ A c, v = .slice A l.length c ∧ l.length ≤ c ∧ RdE E w A l := by
 obtain ⟨A, c, e, h1, _⟩ := h.form
 obtain ⟨A2, c2, e2, h2⟩ := h.rd
 rw [e] at e2
 injection e2 with a b c
 subst a
 exact ⟨A, _, e, h1, h2⟩
theorem RM.md (h : RM B w V m) : ∃ H : MH, V = ⟨.slice H.s m.sT.length H.sc, .slice H.f m.fT.length H.fc, .slice H.r m.rT.length H.rc, .slice H.m m.mT.length H.mc, .slice H.l m.lT.length H.lc, .slice H.i m.iT.length H.ic, .slice H.u m.uT.length H.uc⟩ ∧ MD w w.heap.size H m ∧ m.rT.length ≤ H.rc ∧ m.mT.length ≤ H.mc ∧ m.lT.length ≤ H.lc := by
 obtain ⟨z1, z2, z3, z4, z5⟩ := h.small
 obtain ⟨LI, i1, i2, i3⟩ := h.i
 obtain ⟨LU, u1, u2, u3⟩ := h.u
 obtain ⟨As, cs, es, _, rs⟩ := h.s.formD
 obtain ⟨Af, cf, ef, _, rf⟩ := h.f.formD
 obtain ⟨Ar, cr, er, lr, rr⟩ := own_rd h.r
 obtain ⟨Am, cm, em, lm, rm⟩ := own_rd h.mc
 obtain ⟨Al, cl, el, ll, rl⟩ := own_rd h.l
 obtain ⟨Ai, ci, ei, _, ri⟩ := own_rd i2
 obtain ⟨Au, cu, eu, _, ru⟩ := own_rd u2
 have hil : LI.length = m.iT.length := by rw [← i1]; simp
 have hul : LU.length = m.uT.length := by rw [← u1]; simp
 have hmx : maxLen = 9223372036854775807 := by decide
 have q1 := own_max h.s
 have q2 := own_max h.f
 have q3 := own_max h.r
 have q4 := own_max h.mc
 have q5 := own_max h.l
 have q6 := own_max i2
 have q7 := own_max u2
 refine ⟨⟨As, cs, Af, cf, Ar, cr, Am, cm, Al, cl, Ai, ci, Au, cu⟩, ?_, ⟨rs, rf, ?_, ?_, ?_, ?_, ?_, q1, q2, q3, q4, q5, by omega, by omega, fun s hs => by have := z1 s hs; omega, fun s hs => by have := z2 s hs; omega⟩, lr, lm, ll⟩
 · cases V
   simp only at es ef er em el ei eu ⊢
   rw [es, ef, er, em, el, ei, eu, hil, hul]
 · have := Rows.of_rd (R := encRack) id rr (fun x hx => ⟨rfl, by have := z3 x hx; show x.name.size ≤ _; omega⟩)
   rwa [List.map_id] at this
 · have := Rows.of_rd (R := encMach) id rm (fun x hx => ⟨rfl, by have := z4 x hx; show x.name.size ≤ _; omega⟩)
   rwa [List.map_id] at this
 · have := Rows.of_rd (R := encLink) id rl (fun x hx => rfl)
   rwa [List.map_id] at this
 · have := Rows.of_rd (R := encItem) (·.1) ri (fun x hx => by
     have hz := z5 x.1 (by rw [← i1]; exact List.mem_map_of_mem hx)
     obtain ⟨A, c, e, k1, k2⟩ := (i3 x hx).form
     injection e with e1 e2 e3
     have hc : c ≤ 9223372036854775807 := by
      rcases (i3 x hx).2 with ⟨e4, _⟩ | ⟨g, cap, cur, e4, _, _, _, hm, _⟩
      · injection e4 with _ _ e5; omega
      · injection e4 with _ _ e5; omega
     exact ⟨x.2.1, x.2.2, rfl, by omega, by rw [e3]; exact k1, by rw [e3]; exact hc, by rw [e1]; exact k2⟩)
   rwa [i1] at this
 · have := Rows.of_rd (R := encRule) (·.1) ru (fun x hx => by
     obtain ⟨A, c, e, k1, k2⟩ := (u3 x hx).form
     injection e with e1 e2 e3
     have hc : c ≤ 9223372036854775807 := by
      rcases (u3 x hx).2 with ⟨e4, _⟩ | ⟨g, cap, cur, e4, _, _, _, hm, _⟩
      · injection e4 with _ _ e5; omega
      · injection e4 with _ _ e5; omega
     exact ⟨x.2.1, x.2.2, rfl, by rw [e3]; exact k1, by rw [e3]; exact hc, by rw [e1]; exact k2⟩)
   rwa [u1] at this
end
end Go.Proofs.YtcfogipaadhbeaaGreatDoor

namespace Go.Proofs.YtcfogipaadhbeaaGreatDoor
open Go Go.RowKit
theorem checkKey_int {P : Program} {K : TypeId} {kd : IntKind} (hk : P.underlying K = some (.int kd)) (e : Bool) (n : Nat) (k : Int) (w : World) :
    (Instr.checkKey e (n + 1) K (.int kd k)).run P w = .ok () w := by
 unfold Instr.checkKey
 simp [Sem.run_bind, run_underlying hk]
theorem run_findKey_int {P : Program} {K : TypeId} (hk : P.underlying K = some (.int .i64)) (k : Int) (es : List MapEntry) {r : Option (Nat × Value)} (hf : Instr.findNow (.int .i64) (.int .i64 k) es 0 = some r) (w : World) :
    (Instr.findKey K (.int .i64 k) es).run P w = .ok r w := by
 unfold Instr.findKey
 simp [Sem.run_bind, run_underlying hk, hf]
theorem getObj_run {P : Program} {w : World} {r : Nat} {es : Array MapEntry} {c : Nat} (h : w.heap[r]? = some (.map es c)) : (getObj r).run P w = .ok (.map es c) w := by simp [getObj, Sem.run, h]
theorem setObj_last {P : Program} {w : World} {es : Array MapEntry} {c : Nat} (o : Obj) : (setObj w.heap.size o).run P (w.alloc (.map es c)) = .ok () (w.alloc o) := by
 have hg : (w.alloc (.map es c)).heap[w.heap.size]? = some (.map es c) := heap_alloc_new w _
 simp only [setObj, Sem.run, hg]
 have : (w.alloc (.map es c)).heap.setIfInBounds w.heap.size o = (w.alloc o).heap := by
  show (w.heap.push (.map es c)).setIfInBounds w.heap.size o = w.heap.push o
  apply Array.ext'
  simp
 rw [this]; rfl
theorem run_insert_new {P : Program} {w : World} {t K E : TypeId} {es : Array MapEntry} {c : Nat} {k : Int} {v : Value}
    (ht : P.underlying t = some (.map K E)) (hk : P.underlying K = some (.int .i64)) (hf : Instr.findNow (.int .i64) (.int .i64 k) es.toList 0 = some none) :
    (Instr.mapUpdate t (.map (some w.heap.size)) (.int .i64 k) v).run P (w.alloc (.map es c)) = .ok () (w.alloc (.map (es.push { key := .int .i64 k, val := v, born := c }) (c + 1))) := by
 have hg : (w.alloc (.map es c)).heap[w.heap.size]? = some (.map es c) := heap_alloc_new w _
 unfold Instr.mapUpdate
 simp [Sem.run_bind, run_underlying ht, getObj_run hg, checkKey_int hk, run_findKey_int hk k es.toList hf, setObj_last]
def pickO (o : Option (Nat × Value)) (z : Value) : Value × Bool := match o with | some (_, x) => (x, true) | none => (z, false)
theorem run_lookup_int {P : Program} {w : World} {t K E : TypeId} {r : Nat} {es : Array MapEntry} {c : Nat} {k : Int} {v z : Value} {b : Bool} {o : Option (Nat × Value)}
    (ht : P.underlying t = some (.map K E)) (hk : P.underlying K = some (.int .i64)) (hz : (zeroValue E).run P w = .ok z w) (hg : w.heap[r]? = some (.map es c))
    (hf : Instr.findNow (.int .i64) (.int .i64 k) es.toList 0 = some o) (hv : pickO o z = (v, b)) :
    (Instr.lookup t (.map (some r)) (.int .i64 k) true).run P w = .ok (.tuple #[v, .bool b]) w := by
 unfold Instr.lookup
 simp [Sem.run_bind, run_underlying ht, getObj_run hg, checkKey_int hk, run_findKey_int hk k es.toList hf]
 cases o with
 | none => simp [pickO] at hv; simp [hz, hv]
 | some x => simp [pickO] at hv; simp [hv]
theorem wpList_insert_new {P : Program} {ops : Array Oper} {rest : List Oper} {o : Oper} {a : Act} {Q : Exit → Act → World → Prop} {w w0 : World} (hgd : o.guard = none) (hd : o.dst = none) (t : TypeId) (m k v : Operand)
    (ho : o.op = .insert t m k v) {K E : TypeId} (ht : P.underlying t = some (.map K E)) (hk : P.underlying K = some (.int .i64)) {es : Array MapEntry} {c : Nat} {kk : Int} {vv : Value}
    {r : Nat} (hw : w = w0.alloc (.map es c)) (hm : a.eval m = .map (some r)) (hr : r = w0.heap.size) (hkv : a.eval k = .int .i64 kk) (hv : a.eval v = vv) (hf : Instr.findNow (.int .i64) (.int .i64 kk) es.toList 0 = some none)
    (h : wpList P ops Q rest a (w0.alloc (.map (es.push { key := .int .i64 kk, val := vv, born := c }) (c + 1)))) : wpList P ops Q (o :: rest) a w :=
 wpList_plain hgd fun K' hK => by
  subst hw
  subst hr
  unfold Oper.wp execOp
  simp only [ho, hm, hkv, hv, Sem.run_bind, run_insert_new ht hk hf, Result.andThen_ok, Sem.run_pure, Oper.upon_skip, hd]
  exact hK _ _ h
theorem run_lookup_int1 {P : Program} {w : World} {t K E : TypeId} {r : Nat} {es : Array MapEntry} {c : Nat} {k : Int} {v z : Value} {b : Bool} {o : Option (Nat × Value)}
    (ht : P.underlying t = some (.map K E)) (hk : P.underlying K = some (.int .i64)) (hz : (zeroValue E).run P w = .ok z w) (hg : w.heap[r]? = some (.map es c))
    (hf : Instr.findNow (.int .i64) (.int .i64 k) es.toList 0 = some o) (hv : pickO o z = (v, b)) :
    (Instr.lookup t (.map (some r)) (.int .i64 k) false).run P w = .ok v w := by
 unfold Instr.lookup
 simp [Sem.run_bind, run_underlying ht, getObj_run hg, checkKey_int hk, run_findKey_int hk k es.toList hf]
 cases o with
 | none => simp [pickO] at hv; simp [hz, hv]
 | some x => simp [pickO] at hv; simp [hv]
def ents (f : Nat → Value) (n : Nat) : Array MapEntry := ((List.range n).map fun (k : Nat) => ({ key := .int .i64 (k : Int), val := f k, born := k } : MapEntry)).toArray
theorem ents_push (f : Nat → Value) (n : Nat) : (ents f n).push { key := .int .i64 (n : Int), val := f n, born := n } = ents f (n + 1) := by
 simp [ents, List.range_succ]
theorem sameNow_ne {k m : Int} (h : k ≠ m) : Instr.sameNow (.int .i64) (.int .i64 k) (.int .i64 m) = some false := by
 have : (k == m) = false := by simpa using h
 simp [Instr.sameNow, this]
theorem findNow_none {k : Int} : ∀ (l : List MapEntry) (i : Nat), (∀ e ∈ l, ∃ m : Int, e.key = .int .i64 m ∧ k ≠ m) → Instr.findNow (.int .i64) (.int .i64 k) l i = some none
 | [], _, _ => rfl
 | e :: l, i, h => by
   obtain ⟨m, hm, hne⟩ := h e (by simp)
   unfold Instr.findNow
   rw [hm, sameNow_ne hne]
   exact findNow_none l (i + 1) fun e' he' => h e' (by simp [he'])
theorem findNow_some {k : Int} {v : Value} : ∀ (l : List MapEntry) (i j : Nat) (hj : j < l.length), l[j].key = .int .i64 k → l[j].val = v → (∀ x (hx : x < l.length), x < j → ∃ m : Int, l[x].key = .int .i64 m ∧ k ≠ m) →
    Instr.findNow (.int .i64) (.int .i64 k) l i = some (some (i + j, v))
 | [], _, j, hj, _, _, _ => absurd hj (by simp)
 | e :: l, i, 0, hj, hk, hv, _ => by
   unfold Instr.findNow
   simp at hk hv
   simp [Instr.sameNow, hk, hv]
 | e :: l, i, j + 1, hj, hk, hv, hb => by
   obtain ⟨m, hm, hne⟩ := hb 0 (by simp) (by omega)
   simp at hm
   unfold Instr.findNow
   rw [hm, sameNow_ne hne]
   have := findNow_some (v := v) l (i + 1) j (by simpa using hj) (by simpa using hk) (by simpa using hv) fun x hx hlt => by
    have := hb (x + 1) (by simpa using hx) (by omega)
    simp only [List.getElem_cons_succ] at this
    exact this
   rw [show i + (j + 1) = i + 1 + j by omega]
   exact this
theorem find_ents_new (f : Nat → Value) (n : Nat) : Instr.findNow (.int .i64) (.int .i64 (n : Int)) (ents f n).toList 0 = some none := by
 refine findNow_none _ _ fun e he => ?_
 simp [ents] at he
 obtain ⟨m, hm, rfl⟩ := he
 exact ⟨m, rfl, by omega⟩
theorem find_ents (f : Nat → Value) (n : Nat) (k : Int) : Instr.findNow (.int .i64) (.int .i64 k) (ents f n).toList 0 = some (if 0 ≤ k ∧ k < n then some (k.toNat, f k.toNat) else none) := by
 split
 · rename_i h
   obtain ⟨m, rfl⟩ : ∃ m : Nat, k = m := ⟨k.toNat, by omega⟩
   rw [findNow_some (v := f m) _ 0 m (by simp [ents]; omega) (by simp [ents]) (by simp [ents]) fun x hx hlt => ⟨x, by simp [ents], by omega⟩]
   simp
 · rename_i h
   refine findNow_none _ _ fun e he => ?_
   simp [ents] at he
   obtain ⟨m, hm, rfl⟩ := he
   exact ⟨m, rfl, by omega⟩
theorem wpList_insert_next {P : Program} {ops : Array Oper} {rest : List Oper} {o : Oper} {a : Act} {Q : Exit → Act → World → Prop} {w w0 : World} (hgd : o.guard = none) (hd : o.dst = none) (t : TypeId) (m k v : Operand)
    (ho : o.op = .insert t m k v) {K E : TypeId} (ht : P.underlying t = some (.map K E)) (hk : P.underlying K = some (.int .i64)) (f : Nat → Value) {n : Nat} {kk : Int} {r : Nat} (hw : w = w0.alloc (.map (ents f n) n)) (hr : r = w0.heap.size)
    (hm : a.eval m = .map (some r)) (hkv : a.eval k = .int .i64 kk) (hkn : kk = (n : Int)) (hv : a.eval v = f n)
    (h : wpList P ops Q rest a (w0.alloc (.map (ents f (n + 1)) (n + 1)))) : wpList P ops Q (o :: rest) a w := by
 subst hkn
 refine wpList_insert_new hgd hd t m k v ho ht hk hw hm hr hkv hv (find_ents_new f n) ?_
 rw [ents_push]; exact h
end Go.Proofs.YtcfogipaadhbeaaGreatDoor

namespace Go.Proofs.YtcfogipaadhbeaaGreatDoor
open Go Go.RowKit Go.Proofs
theorem setObj_put {P : Program} {w : World} {r : Nat} {es : Array MapEntry} {c : Nat} (h : w.heap[r]? = some (.map es c)) (o : Obj) : (setObj r o).run P w = .ok () (w.putObj r o) := by
 simp only [setObj, Sem.run, h]
 rfl
end Go.Proofs.YtcfogipaadhbeaaGreatDoor
