/- The walk of placement.with. Conditions: lengths that fit memory; what is known of the closure. Events in memory; the walks of census.kind, exists, counts. Conditions: lengths that fit memory. The walks of placement.Drop and its closure. Conditions: lengths that fit memory. The walk of placement.Drop. Conditions: lengths that fit memory. The walk of placement.Put$1 at a nil slice. Conditions: lengths that fit memory. The walk of placement.Put's closure. Conditions: lengths that fit memory. The walk of placement.Put. Conditions: lengths that fit memory. The walk of census.after. Conditions: lengths that fit memory. The walk of placement.Initial. Conditions: lengths that fit memory. The walk of census.walk, for any visitor. Conditions: lengths that fit memory; what is known of the visitor. Plain Lean: what is watched and what is broken (chapter 58); what validity gives. Conditions: none. -/
import Derived.Test.YtpggamapmgpjcaaGreatDoorK08
import Derived.Deep.RegionLaw
import Derived.IntWalk
import Derived.Deep.MidRow
import Derived.Deep.WholeRow
import Derived.Deep.RegionLawGrows

namespace Go.Proofs.YtpggamapmgpjcaaGreatDoor
open Go Go.RowKit Go.Proofs

theorem withP_no {p : PlaceM} {item : Int} {l : List UnitM} (h : exI item p.length = false) : withP p item l = p := by simp [withP, h]
theorem withP_yes {p : PlaceM} {j : Nat} {l : List UnitM} (hj : j < p.length) : withP p ((j : Int) + 1) l = p.set j l := by
  have : exI ((j : Int) + 1) p.length = true := by simp [exI]; omega
  simp [withP, this]
theorem Below.grownL {B : Nat} {a w w' : World} {v : Value} (hb : Below B a w) (hg : w.grownBy w' v.ownBlock) (hB : B ≤ w.heap.size) (hv : ∀ k, v.ownBlock = some k → B ≤ k) : Below B a w' := hb.grown hg hB hv
end Go.Proofs.YtpggamapmgpjcaaGreatDoor

namespace Go.Proofs.YtpggamapmgpjcaaGreatDoor
open Go Go.RowKit Go.Proofs

/-- what an event holds besides the plain part -/
structure EvJ where
  v2 : Int
  v3 : Int
  v5 : Int
  v6 : ByteArray
  v7 : Int
  v8 : Int
  v9 : Int
  v10 : Bool
  v11 : Int
  A : Option Addr
  c : Nat
  A13 : Option Addr
  n13 : Nat
  c13 : Nat
  A14 : Option Addr
  n14 : Nat
  c14 : Nat
  v16 : Int
  v18 : Int
  v19 : Int
def encEv : RelK EvM := ⟨fun (w : World) (B : Nat) (x : EvM) (vs : List Value) => ∃ j : EvJ, vs = (#[.int .i64 x.kind, .int .i64 x.mach, .int .i64 j.v2, .int .i64 j.v3, .int .i64 x.group, .int .i64 j.v5, .string j.v6, .int .i64 j.v7, .int .i64 j.v8, .int .i64 j.v9, .bool j.v10, .int .i64 j.v11, .slice j.A x.old.length j.c, .slice j.A13 j.n13 j.c13, .slice j.A14 j.n14 j.c14, .int .i64 x.hitem, .int .i64 j.v16, .int .i64 x.hstate, .int .i64 j.v18, .int .i64 j.v19, .bool x.gone, .int .i64 x.outcome] : Array Value).toList ∧ x.old.length ≤ j.c ∧ j.c ≤ 9223372036854775807 ∧ Ints w B j.A x.old,
  fun ⟨j, h1, h2, h3, h4⟩ hk => ⟨j, h1, h2, h3, h4.keep hk⟩, fun ⟨j, h1, h2, h3, h4⟩ hB => ⟨j, h1, h2, h3, h4.more hB⟩⟩
theorem Rows.ev {w : World} {B : Nat} {A : Option Addr} {l : List EvM} (h : Rows encEv 22 w B A l) {i : Nat} (hi : i < l.length) {x : EvM} (hx : l[i] = x) :
    ∃ (b off : Nat) (j : EvJ), A = some ⟨b, off, none⟩ ∧ b < B ∧ x.old.length ≤ j.c ∧ j.c ≤ 9223372036854775807 ∧ Ints w B j.A x.old ∧ ∀ (k : Nat) (u : Value), (#[.int .i64 x.kind, .int .i64 x.mach, .int .i64 j.v2, .int .i64 j.v3, .int .i64 x.group, .int .i64 j.v5, .string j.v6, .int .i64 j.v7, .int .i64 j.v8, .int .i64 j.v9, .bool j.v10, .int .i64 j.v11, .slice j.A x.old.length j.c, .slice j.A13 j.n13 j.c13, .slice j.A14 j.n14 j.c14, .int .i64 x.hitem, .int .i64 j.v16, .int .i64 x.hstate, .int .i64 j.v18, .int .i64 j.v19, .bool x.gone, .int .i64 x.outcome] : Array Value)[k]? = some u → w.cell? ⟨b, off + i * 22 + k, none⟩ = some u := by
  subst hx
  obtain ⟨b, off, vs, e, hb, _, ⟨j, rfl, h1, h2, h3⟩, hc⟩ := h i hi
  exact ⟨b, off, j, e, hb, h1, h2, h3, fun k u hu => hc k u (by simpa using hu)⟩
theorem ev_one (x : EvM) (j : EvJ) : (#[.int .i64 x.kind, .int .i64 x.mach, .int .i64 j.v2, .int .i64 j.v3, .int .i64 x.group, .int .i64 j.v5, .string j.v6, .int .i64 j.v7, .int .i64 j.v8, .int .i64 j.v9, .bool j.v10, .int .i64 j.v11, .slice j.A x.old.length j.c, .slice j.A13 j.n13 j.c13, .slice j.A14 j.n14 j.c14, .int .i64 x.hitem, .int .i64 j.v16, .int .i64 x.hstate, .int .i64 j.v18, .int .i64 j.v19, .bool x.gone, .int .i64 x.outcome] : Array Value).all (·.oneCell') = true := by simp [Value.oneCell']
theorem Rows.evRange {w : World} {B : Nat} {A : Option Addr} {l : List EvM} (h : Rows encEv 22 w B A l) {i : Nat} (hi : i < l.length) {x : EvM} (hx : l[i] = x) :
    ∃ (b off : Nat) (j : EvJ), A = some ⟨b, off, none⟩ ∧ b < B ∧ x.old.length ≤ j.c ∧ j.c ≤ 9223372036854775807 ∧ Ints w B j.A x.old ∧ w.rangeAt b (off + i * 22) [.int .i64 x.kind, .int .i64 x.mach, .int .i64 j.v2, .int .i64 j.v3, .int .i64 x.group, .int .i64 j.v5, .string j.v6, .int .i64 j.v7, .int .i64 j.v8, .int .i64 j.v9, .bool j.v10, .int .i64 j.v11, .slice j.A x.old.length j.c, .slice j.A13 j.n13 j.c13, .slice j.A14 j.n14 j.c14, .int .i64 x.hitem, .int .i64 j.v16, .int .i64 x.hstate, .int .i64 j.v18, .int .i64 j.v19, .bool x.gone, .int .i64 x.outcome] := by
  obtain ⟨b, off, j, e, hb, h1, h2, h3, hc⟩ := h.ev hi hx
  exact ⟨b, off, j, e, hb, h1, h2, h3, fun k u hu => hc k u (by simpa using hu)⟩

/-- a call that answers v and only makes memory -/
def AnsR (w : World) (v : Value) (e : Ending) (w' : World) : Prop := e = .returned v ∧ Below w.heap.size w w'
theorem kindI_no {m : Mod} {n : Int} (h : n < 1 ∨ (m.items.length : Int) < n) : kindI m n = -1 := by
  have : exI n m.items.length = false := by simp [exI]; omega
  simp [kindI, this]
theorem kindI_yes {m : Mod} {k : Nat} (hk : k < m.items.length) : kindI m ((k : Int) + 1) = m.items[k].kind := by
  have : exI ((k : Int) + 1) m.items.length = true := by simp [exI]; omega
  simp [kindI, this, hk]
theorem countsB_2 {m : Mod} {x : EvM} (h : x.kind = 2) : countsB m x = decide (kindI m x.group = 0) := by simp [countsB, h]
theorem countsB_3 {m : Mod} {x : EvM} (h : x.kind = 3) : countsB m x = ((decide (kindI m x.hitem = 1) || decide (kindI m x.hitem = 2)) && exI x.mach m.machs.length) := by simp [countsB, h]
theorem countsB_0 {m : Mod} {x : EvM} (h : x.kind ≠ 2) (h3 : x.kind ≠ 3) : countsB m x = false := by simp [countsB, h, h3]
end Go.Proofs.YtpggamapmgpjcaaGreatDoor

namespace Go.Proofs.YtpggamapmgpjcaaGreatDoor
open Go Go.RowKit Go.Proofs

theorem drop_none {l : List UnitM} {mc : Int} (h : findU l mc = none) : dropU l mc = l := by simp [dropU, h]
theorem drop_some {l : List UnitM} {mc : Int} {i : Nat} (h : findU l mc = some i) : dropU l mc = l.take i ++ l.drop (i + 1) := by simp [dropU, h]
end Go.Proofs.YtpggamapmgpjcaaGreatDoor

namespace Go.Proofs.YtpggamapmgpjcaaGreatDoor
open Go Go.RowKit Go.Proofs

/-- what is asked of a placement: its lists are short -/
def Short (p : PlaceM) : Prop := p.length ≤ 1000 ∧ ∀ l ∈ p, l.length ≤ 999
theorem Short.units {p : PlaceM} (h : Short p) (item : Int) : (unitsP p item).length ≤ 999 := by
  unfold unitsP
  split
  · rename_i hi
    have hi2 : 1 ≤ item ∧ item ≤ (p.length : Int) := by simpa [exI] using hi
    have hj : (item - 1).toNat < p.length := by omega
    rw [List.getD_eq_getElem?_getD, List.getElem?_eq_getElem hj]
    exact h.2 _ (List.getElem_mem _)
  · simp
theorem Short.each {p : PlaceM} (h : Short p) : ∀ l ∈ p, l.length ≤ 1000 := fun l hl => by have := h.2 l hl; omega
end Go.Proofs.YtpggamapmgpjcaaGreatDoor

namespace Go.Proofs.YtpggamapmgpjcaaGreatDoor
open Go Go.RowKit Go.Proofs

theorem unitCells_set : ∀ (l : List UnitM) (i : Nat) (a b : Int), i < l.length → unitCells (l.set i (a, b)) = ((unitCells l).set (i * 2) (.int .i64 a)).set (i * 2 + 1) (.int .i64 b)
  | u :: l, 0, a, b, _ => rfl
  | u :: l, i + 1, a, b, h => by
    have := unitCells_set l i a b (by simpa using h)
    rw [show (i + 1) * 2 = i * 2 + 2 by omega]
    simp only [List.set_cons_succ]
    show unitCells (u :: l.set i (a, b)) = _
    simp only [unitCells, List.flatMap_cons] at this ⊢
    rw [this]
    rfl
theorem put_some {l : List UnitM} {mc st : Int} {i : Nat} (h : findU l mc = some i) : putU l mc st = l.set i (mc, st) := by simp [putU, h]
theorem put_none {l : List UnitM} {mc st : Int} (h : findU l mc = none) : putU l mc st = l.take (atU l mc) ++ (mc, st) :: l.drop (atU l mc) := by simp [putU, h]
theorem atU_le (l : List UnitM) (mc : Int) : atU l mc ≤ l.length := by
  unfold atU
  cases h : l.findIdx? fun u => decide (mc < u.1) with
  | none => simp
  | some k => simp; exact Nat.le_of_lt (List.findIdx?_eq_some_iff_getElem.1 h).1
theorem atU_eq (l : List UnitM) (mc : Int) : firstI (fun u : UnitM => decide (mc < u.1)) l = (atU l mc : Int) ∨ (firstI (fun u : UnitM => decide (mc < u.1)) l = -1 ∧ atU l mc = l.length) := by
  unfold atU firstI
  cases h : l.findIdx? fun u => decide (mc < u.1) with
  | none => exact .inr ⟨rfl, rfl⟩
  | some k => exact .inl rfl
end Go.Proofs.YtpggamapmgpjcaaGreatDoor

namespace Go.Proofs.YtpggamapmgpjcaaGreatDoor
open Go Go.RowKit Go.Proofs

end Go.Proofs.YtpggamapmgpjcaaGreatDoor

namespace Go.Proofs.YtpggamapmgpjcaaGreatDoor
open Go Go.RowKit Go.Proofs

end Go.Proofs.YtpggamapmgpjcaaGreatDoor

namespace Go.Proofs.YtpggamapmgpjcaaGreatDoor
open Go Go.RowKit Go.Proofs

/-- lists of a placement are short, with room to grow -/
def Room (n : Nat) (p : PlaceM) : Prop := p.length ≤ 1000 ∧ ∀ l ∈ p, l.length ≤ n
theorem Room.short {n : Nat} {p : PlaceM} (h : Room n p) (hn : n ≤ 999) : Short p := ⟨h.1, fun l hl => Nat.le_trans (h.2 l hl) hn⟩
theorem Room.mono {n n' : Nat} {p : PlaceM} (h : Room n p) (hn : n ≤ n') : Room n' p := ⟨h.1, fun l hl => Nat.le_trans (h.2 l hl) hn⟩
theorem Room.unitsP {n : Nat} {p : PlaceM} (h : Room n p) (item : Int) : (unitsP p item).length ≤ n := by
  unfold Go.Proofs.YtpggamapmgpjcaaGreatDoor.unitsP
  split
  · rename_i hi
    have hi2 : 1 ≤ item ∧ item ≤ (p.length : Int) := by simpa [exI] using hi
    have hj : (item - 1).toNat < p.length := by omega
    rw [List.getD_eq_getElem?_getD, List.getElem?_eq_getElem hj]
    exact h.2 _ (List.getElem_mem _)
  · simp
theorem Room.withP {n : Nat} {p : PlaceM} {item : Int} {l : List UnitM} (h : Room n p) (hl : l.length ≤ n) : Room n (withP p item l) := by
  refine ⟨by rw [withP_len]; exact h.1, fun x hx => ?_⟩
  unfold Go.Proofs.YtpggamapmgpjcaaGreatDoor.withP at hx
  split at hx
  · rcases List.mem_or_eq_of_mem_set hx with hx | rfl
    · exact h.2 x hx
    · exact hl
  · exact h.2 x hx
theorem dropU_len (l : List UnitM) (mc : Int) : (dropU l mc).length ≤ l.length := by
  unfold dropU
  split
  · exact Nat.le_refl _
  · simp; omega
theorem putU_len (l : List UnitM) (mc st : Int) : (putU l mc st).length ≤ l.length + 1 := by
  unfold putU
  split
  · simp
  · simp; omega
theorem Room.drop {n : Nat} {p : PlaceM} (h : Room n p) (item mc : Int) : Room n (dropP p item mc) := h.withP (Nat.le_trans (dropU_len _ _) (h.unitsP item))
theorem Room.put {n : Nat} {p : PlaceM} (h : Room n p) (item mc st : Int) : Room (n + 1) (putP p item mc st) := (h.mono (Nat.le_succ n)).withP (Nat.le_trans (putU_len _ _ _) (Nat.succ_le_succ (h.unitsP item)))
theorem Room.dropAll1 {n : Nat} {p : PlaceM} (h : Room n p) (item : Int) (k : Nat) : Room n (dropAll p item k) := by
  induction k with
  | zero => exact h
  | succ k ih => unfold dropAll; rw [List.range_succ, List.foldl_append]; exact Room.drop ih item _
theorem dropAll_succ (p : PlaceM) (item : Int) (k : Nat) : dropP (dropAll p item k) item ((k : Int) + 1) = dropAll p item (k + 1) := by
  unfold dropAll; rw [List.range_succ, List.foldl_append]; rfl
theorem Room.putOld1 {n : Nat} {p : PlaceM} (h : Room n p) (m : Mod) (item k : Int) : Room (n + 1) (putOld m item p k) := by
  unfold putOld
  split
  · exact h.put _ _ _
  · exact h.mono (Nat.le_succ n)
theorem Room.putOlds (m : Mod) (item : Int) : ∀ (l : List Int) {n : Nat} {p : PlaceM}, Room n p → Room (n + l.length) (l.foldl (putOld m item) p)
  | [], _, _, h => h
  | a :: l, n, p, h => by
    have := Room.putOlds m item l (h.putOld1 m item a)
    simp only [List.foldl_cons, List.length_cons]
    exact this.mono (by omega)
theorem Room.after {n : Nat} {p : PlaceM} (h : Room n p) (m : Mod) (x : EvM) : Room (n + (x.old.length + 1)) (afterP m p x) := by
  unfold afterP
  split
  · exact (Room.putOlds m x.group x.old (h.dropAll1 x.group _)).mono (by omega)
  · split
    · exact (h.drop _ _).mono (by omega)
    · split <;> exact (h.put _ _ _).mono (by omega)

theorem afterP_gone {m : Mod} {q : PlaceM} {x : EvM} (hk : x.kind ≠ 2) (hg : x.gone = true) : afterP m q x = dropP q x.hitem x.mach := by
  unfold afterP
  rw [if_neg hk]
  simp [hg]
theorem afterP_pool {m : Mod} {q : PlaceM} {x : EvM} (hk : x.kind ≠ 2) (hg : x.gone = false) (hp1 : (kindI m x.hitem == 1) = true) (hs : (x.hstate != 0) = true) : afterP m q x = dropP q x.hitem x.mach := by
  unfold afterP
  rw [if_neg hk]
  simp at hp1 hs; simp [hg, hp1, hs]
theorem afterP_run {m : Mod} {q : PlaceM} {x : EvM} (hk : x.kind ≠ 2) (hg : x.gone = false) (hp1 : (kindI m x.hitem == 1) = true) (hs : (x.hstate != 0) = false) : afterP m q x = putP q x.hitem x.mach 0 := by
  unfold afterP
  rw [if_neg hk]
  simp at hp1 hs; simp [hg, hp1, hs]
theorem afterP_paused {m : Mod} {q : PlaceM} {x : EvM} (hk : x.kind ≠ 2) (hg : x.gone = false) (hp1 : (kindI m x.hitem == 1) = false) (hs : (x.hstate == 2) = true) : afterP m q x = putP q x.hitem x.mach 2 := by
  unfold afterP
  rw [if_neg hk]
  simp at hp1 hs; simp [hg, hp1, hs]
theorem afterP_job {m : Mod} {q : PlaceM} {x : EvM} (hk : x.kind ≠ 2) (hg : x.gone = false) (hp1 : (kindI m x.hitem == 1) = false) (hs : (x.hstate == 2) = false) : afterP m q x = putP q x.hitem x.mach 0 := by
  unfold afterP
  rw [if_neg hk]
  simp at hp1 hs; simp [hg, hp1, hs]
end Go.Proofs.YtpggamapmgpjcaaGreatDoor

namespace Go.Proofs.YtpggamapmgpjcaaGreatDoor
open Go Go.RowKit Go.Proofs

def initU (l : List Int) : List UnitM := l.map fun k => (k, 0)
theorem initU_len (l : List Int) : (initU l).length = l.length := by simp [initU]
theorem initU_snoc (l : List Int) {k : Nat} (hk : k < l.length) : initU (l.take k) ++ [(l[k], 0)] = initU (l.take (k + 1)) := by
  rw [List.take_succ_eq_append_getElem hk]
  simp only [initU, List.map_append, List.map_cons, List.map_nil]
end Go.Proofs.YtpggamapmgpjcaaGreatDoor

namespace Go.Proofs.YtpggamapmgpjcaaGreatDoor
open Go Go.RowKit Go.Proofs

theorem initP_len (m : Mod) : (initP m).length = m.items.length := by simp [initP]
theorem initP_at (m : Mod) (k : Nat) (hk : k < m.items.length) : (initP m).take k ++ [initU m.items[k].on] = (initP m).take (k + 1) := by
  rw [List.take_succ_eq_append_getElem (by rw [initP_len]; exact hk)]
  congr 2
  simp [initP, initU]
end Go.Proofs.YtpggamapmgpjcaaGreatDoor

namespace Go.Proofs.YtpggamapmgpjcaaGreatDoor
open Go Go.RowKit Go.Proofs

/-- the placement after the first events -/
def placeAt (m : Mod) (l : List EvM) (k : Nat) : PlaceM := (l.take k).foldl (stepP m) (initP m)
theorem placeAt_zero (m : Mod) (l : List EvM) : placeAt m l 0 = initP m := rfl
theorem placeAt_succ (m : Mod) (l : List EvM) {k : Nat} (hk : k < l.length) : placeAt m l (k + 1) = stepP m (placeAt m l k) l[k] := by
  unfold placeAt
  rw [List.take_succ_eq_append_getElem hk, List.foldl_append]; rfl
theorem Room.init {m : Mod} (hi : m.items.length ≤ 1000) (ho : ∀ x ∈ m.items, x.on.length ≤ 100) : Room 100 (initP m) := by
  refine ⟨by simpa [initP] using hi, fun l hl => ?_⟩
  simp only [initP, List.mem_map] at hl
  obtain ⟨x, hx, rfl⟩ := hl
  simpa using ho x hx
theorem Room.step {n : Nat} {p : PlaceM} (h : Room n p) (m : Mod) (x : EvM) (ho : x.old.length ≤ 10) : Room (n + 11) (stepP m p x) := by
  unfold stepP
  split
  · exact (h.after m x).mono (by omega)
  · exact h.mono (by omega)
theorem Room.placeAt {m : Mod} {l : List EvM} (hi : m.items.length ≤ 1000) (ho : ∀ x ∈ m.items, x.on.length ≤ 100) (hl : ∀ x ∈ l, x.old.length ≤ 10) (k : Nat) : Room (100 + 11 * k) (placeAt m l k) := by
  induction k with
  | zero => exact Room.init hi ho
  | succ k ih =>
    by_cases hk : k < l.length
    · rw [placeAt_succ m l hk]
      exact (ih.step m _ (hl _ (List.getElem_mem hk))).mono (by omega)
    · have : Go.Proofs.YtpggamapmgpjcaaGreatDoor.placeAt m l (k + 1) = Go.Proofs.YtpggamapmgpjcaaGreatDoor.placeAt m l k := by
        unfold Go.Proofs.YtpggamapmgpjcaaGreatDoor.placeAt
        rw [List.take_of_length_le (by omega), List.take_of_length_le (by omega)]
      rw [this]
      exact ih.mono (by omega)
theorem room60 {m : Mod} {l : List EvM} (hi : m.items.length ≤ 1000) (ho : ∀ x ∈ m.items, x.on.length ≤ 100) (hl : l.length ≤ 60) (hold : ∀ x ∈ l, x.old.length ≤ 10) (k : Nat) (hk : k ≤ l.length) : Room 800 (placeAt m l k) := (Room.placeAt hi ho hold k).mono (by omega)
/-- all blocks but one are as they were -/
structure Besides (g : Nat) (w w' : World) : Prop where
  os : w'.os = w.os
  tape : w'.tape = w.tape
  output : w'.output = w.output
  size : w.heap.size ≤ w'.heap.size
  block : ∀ k, k < w.heap.size → k ≠ g → w'.heap[k]? = w.heap[k]?
theorem Besides.trans {g : Nat} {a b c : World} (h : Besides g a b) (k : Besides g b c) : Besides g a c :=
  ⟨k.os.trans h.os, k.tape.trans h.tape, k.output.trans h.output, Nat.le_trans h.size k.size, fun i hi hn => (k.block i (Nat.lt_of_lt_of_le hi h.size) hn).trans (h.block i hi hn)⟩
theorem Besides.below {g : Nat} {w w' : World} (h : Below w.heap.size w w') : Besides g w w' := ⟨h.os, h.tape, h.output, h.size, fun k hk _ => h.block k hk⟩
theorem Besides.set_ {g : Nat} (w : World) (i : Nat) (u : Value) : Besides g w (w.setCell ⟨g, i, none⟩ u) :=
  ⟨rfl, rfl, rfl, by simp, fun k _ hn => Below.heap_setCell w ⟨g, i, none⟩ u k (fun e => hn e)⟩
theorem Besides.toBelow {g B : Nat} {w w' : World} (h : Besides g w w') (hB : B ≤ g) (hw : B ≤ w.heap.size) : Below B w w' := ⟨h.os, h.tape, h.output, h.size, fun k hk => h.block k (by omega) (by omega)⟩
theorem Besides.blk {g b : Nat} {w w' : World} {t : TypeId} {cs : Array Value} (h : Besides g w w') (hB : Blk w b t cs) (hn : b ≠ g) : Blk w' b t cs := (h.block b hB.lt hn).trans hB
theorem Besides.kt {g : Nat} {w w' : World} {T T' : TypeId} {cs : Array Value} (h : Besides g w w') (hb : Blk w g T' cs) (hne : T ≠ T') : KT T w w' := by
  refine ⟨h.size, fun b cur hB => h.blk hB fun e => ?_⟩
  subst e
  rw [Blk] at hb hB
  rw [hb] at hB
  simp at hB
  exact hne hB.2.symm
def TupR (Q : World → Prop) (e : Ending) (w' : World) : Prop := e = .returned (.tuple #[]) ∧ Q w'
end Go.Proofs.YtpggamapmgpjcaaGreatDoor

namespace Go.Proofs.YtpggamapmgpjcaaGreatDoor
open Go

/-- a breach: event, kind, rule, item -/
abbrev BrM := Int × Int × Int × Int
def watchedB (m : Mod) (r : RuleM) : Bool := (decide (r.kind = 0) || decide (r.kind = 1) || decide (r.kind = 2) || decide (r.kind = 3)) && !decide (kindI m r.item = 2) && holdsAll m r (initP m)
def brk1 (m : Mod) (p : PlaceM) (i k : Nat) (r : RuleM) : List BrM := if watchedB m r && !holdsAll m r p then [((i : Int), r.kind, (k : Int) + 1, r.item)] else []
def brksTo (m : Mod) (p : PlaceM) (i n : Nat) : List BrM := (List.range n).flatMap fun k => match m.rules[k]? with | some r => brk1 m p i k r | none => []
theorem brksTo_zero (m : Mod) (p : PlaceM) (i : Nat) : brksTo m p i 0 = [] := rfl
theorem brksTo_succ (m : Mod) (p : PlaceM) (i : Nat) {k : Nat} (hk : k < m.rules.length) : brksTo m p i (k + 1) = brksTo m p i k ++ brk1 m p i k m.rules[k] := by
  unfold brksTo
  rw [List.range_succ, List.flatMap_append]
  simp [hk]
def evBrks (m : Mod) (l : List EvM) (i : Nat) : List BrM := match l[i]? with | some e => if countsB m e then brksTo m (placeAt m l (i + 1)) i m.rules.length else [] | none => []
def breachesTo (m : Mod) (l : List EvM) (n : Nat) : List BrM := (List.range n).flatMap (evBrks m l)
def breachesM (m : Mod) (l : List EvM) : List BrM := breachesTo m l l.length
theorem breachesTo_zero (m : Mod) (l : List EvM) : breachesTo m l 0 = [] := rfl
theorem breachesTo_succ (m : Mod) (l : List EvM) {i : Nat} (hi : i < l.length) : breachesTo m l (i + 1) = breachesTo m l i ++ if countsB m l[i] then brksTo m (placeAt m l (i + 1)) i m.rules.length else [] := by
  unfold breachesTo
  rw [List.range_succ, List.flatMap_append]
  simp [evBrks, hi]
theorem brk1_len (m : Mod) (p : PlaceM) (i k : Nat) (r : RuleM) : (brk1 m p i k r).length ≤ 1 := by
  unfold brk1; split <;> simp
theorem brksTo_len (m : Mod) (p : PlaceM) (i : Nat) : ∀ n, (brksTo m p i n).length ≤ n
  | 0 => by simp [brksTo]
  | n + 1 => by
    have ih := brksTo_len m p i n
    unfold brksTo at ih ⊢
    rw [List.range_succ, List.flatMap_append, List.length_append]
    have : (List.flatMap (fun k => match m.rules[k]? with | some r => brk1 m p i k r | none => []) [n]).length ≤ 1 := by
      simp only [List.flatMap_cons, List.flatMap_nil, List.append_nil]
      split
      · exact brk1_len m p i n _
      · simp
    omega
theorem breachesTo_len (m : Mod) (l : List EvM) : ∀ n, (breachesTo m l n).length ≤ n * m.rules.length
  | 0 => by simp [breachesTo]
  | n + 1 => by
    have ih := breachesTo_len m l n
    unfold breachesTo at ih ⊢
    rw [List.range_succ, List.flatMap_append, List.length_append]
    have : (List.flatMap (evBrks m l) [n]).length ≤ m.rules.length := by
      simp only [List.flatMap_cons, List.flatMap_nil, List.append_nil]
      unfold evBrks
      split
      · split
        · exact brksTo_len m _ _ _
        · simp
      · simp
    rw [Nat.succ_mul]
    omega
theorem ok_rule {m : Mod} (hv : validM m = true) {r : RuleM} (hr : r ∈ m.rules) : ruleOk m r = true := by
  simp only [validM, Bool.and_eq_true, List.all_eq_true] at hv
  exact hv.1.2 r hr
theorem ok_item {m : Mod} (hv : validM m = true) {x : ItemM} (hx : x ∈ m.items) : itemOk m x = true := by
  simp only [validM, Bool.and_eq_true, List.all_eq_true] at hv
  exact hv.1.1.2 x hx
theorem valid_kind {m : Mod} (hv : validM m = true) {x : ItemM} (hx : x ∈ m.items) : x.kind = 0 ∨ x.kind = 1 ∨ x.kind = 2 := by
  have h := ok_item hv hx
  simp only [itemOk, Bool.and_eq_true] at h
  have h := h.2
  unfold itemKindB at h
  by_cases h0 : x.kind = 0
  · exact .inl h0
  by_cases h1 : x.kind = 1
  · exact .inr (.inl h1)
  by_cases h2 : x.kind = 2
  · exact .inr (.inr h2)
  rw [if_neg h0, if_neg h1, if_neg h2] at h
  cases h
theorem valid_sizes {m : Mod} (hv : validM m = true) : m.items.length ≤ 8 ∧ m.rules.length ≤ 40 ∧ m.machs.length ≤ 16 ∧ m.racks.length ≤ 16 ∧ m.feeds.length ≤ 16 ∧ m.sites.length ≤ 4 := by
  simp only [validM, siteB, exI, Bool.and_eq_true, decide_eq_true_eq] at hv
  omega
theorem incB_len {nm : Nat} {l : List Int} (h : incB nm l = true) : l.length ≤ nm := by
  simp only [incB, Bool.and_eq_true, decide_eq_true_eq, exI] at h
  obtain ⟨_, h⟩ := h
  have key : ∀ i (hi : i < l.length), (i : Int) + 1 ≤ l[i] := by
    intro i
    induction i with
    | zero => intro hi; have := (h 0 hi).1.1; omega
    | succ i ih =>
      intro hi
      have h1 := ih (by omega)
      have h2 := (h (i + 1) hi).2 (by omega)
      rw [Nat.add_sub_cancel, List.getD_eq_getElem?_getD, List.getElem?_eq_getElem (by omega), Option.getD_some] at h2
      omega
  rcases Nat.eq_zero_or_pos l.length with h0 | h0
  · omega
  · have h1 := key (l.length - 1) (by omega)
    have h2 := (h (l.length - 1) (by omega)).1.2
    omega
theorem valid_on {m : Mod} (hv : validM m = true) {x : ItemM} (hx : x ∈ m.items) : x.on.length ≤ 16 := by
  have h := ok_item hv hx
  simp only [itemOk, Bool.and_eq_true] at h
  have := incB_len h.1.1.1.1
  have := (valid_sizes hv).2.2.1
  omega
/-- a rule that is judged at an instant is one of an item -/
theorem rule_item {m : Mod} {r : RuleM} (h : ruleOk m r = true) (hk : r.kind = 0 ∨ r.kind = 1 ∨ r.kind = 2 ∨ r.kind = 3) : 1 ≤ r.item ∧ r.item ≤ m.items.length := by
  unfold ruleOk at h
  rcases hk with hk | hk | hk | hk <;> simp [hk, exI] at h <;> omega
theorem rule_by {m : Mod} {r : RuleM} (h : ruleOk m r = true) (hk : r.kind = 2) : r.by_ = 2 ∨ r.by_ = 3 ∨ r.by_ = 4 := by
  unfold ruleOk at h
  simp [hk, wiI] at h
  omega
theorem rule_n {m : Mod} {r : RuleM} (h : ruleOk m r = true) : 0 ≤ r.n ∧ r.n ≤ 200 := by
  unfold ruleOk at h
  repeat' split at h
  all_goals first | (simp [wiI] at h <;> omega) | cases h
theorem rule_machines {m : Mod} {r : RuleM} (h : ruleOk m r = true) : r.machines.length ≤ m.machs.length := by
  unfold ruleOk at h
  repeat' split at h
  all_goals first
    | (simp only [Bool.and_eq_true] at h; exact incB_len h.1.1.1.1.2)
    | (simp only [noList, Bool.and_eq_true, decide_eq_true_eq] at h; omega)
    | cases h
end Go.Proofs.YtpggamapmgpjcaaGreatDoor
