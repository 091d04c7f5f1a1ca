/- A part of the claim: see its last text. -/
import Derived.Test.YtcfogipaadhbeaaGreatDoorUK02
import Derived.Deep.RegionLaw
import Derived.Test.YtcfogipaadhbeaaGreatDoorUK01
import Derived.Test.YtcfogipaadhbeaaGreatDoorUK26
import Derived.Test.YtcfogipaadhbeaaGreatDoorUK08
import Derived.Deep.RegionHeld3
import Derived.IntWalk
import Derived.Deep.MidRow
import Derived.Deep.WholeRow
import Derived.Deep.RegionLawGrows

set_option maxRecDepth 100000
set_option maxHeartbeats 16000000
namespace Go.Proofs.YtcfogipaadhbeaaGreatDoor
open Go Go.RowKit Go.Proofs
def KT (T : TypeId) (w w' : World) : Prop := w.heap.size ≤ w'.heap.size ∧ ∀ (g : Nat) (cur : Array Value), Blk w g T cur → Blk w' g T cur
section
variable {T T' : TypeId} {w w' w'' : World}
theorem KT.refl (T : TypeId) (w : World) : KT T w w := ⟨Nat.le_refl _, fun _ _ h => h⟩
theorem KT.trans (h : KT T w w') (h' : KT T w' w'') : KT T w w'' := ⟨Nat.le_trans h.1 h'.1, fun g cur hb => h'.2 g cur (h.2 g cur hb)⟩
theorem KT.below (h : Below w.heap.size w w') : KT T w w' := ⟨h.size, fun _ _ hb => hb.below h hb.lt⟩
theorem KT.alloc (w : World) (o : Obj) : KT T w (w.alloc o) := ⟨by simp, fun _ _ hb => hb.alloc o⟩
theorem KT.drew (w : World) : KT T w w.drew := ⟨Nat.le_refl _, fun _ _ hb => hb⟩
theorem KT.grown {B k n : Nat} {v : Value} {xs : List Value} (hown : w.ownsRow B T' k v n xs) (hne : T ≠ T') (hg : w.grownBy w' v.ownBlock) : KT T w w' := by
 refine ⟨hg.size, fun g cur hb => hb.grown hg fun e => ?_⟩
 rcases hown.2 with ⟨rfl, _⟩ | ⟨g2, cap, cur2, rfl, _, hh, _⟩
 · cases e
 · obtain rfl : g = g2 := Option.some.inj e
   rw [show w.heap[g]? = some (.cells cur T (0, 0)) from hb] at hh
   simp at hh
   exact hne hh.2
theorem KT.set_ {g : Nat} {cs : Array Value} (h : Blk w g T' cs) (hne : T ≠ T') (i : Nat) (v : Value) : KT T w (w.setCell ⟨g, i, none⟩ v) := by
 refine ⟨by simp, fun g2 cur hb => hb.far (fun e => ?_) v⟩
 simp only at e
 subst e
 rw [Blk] at hb h
 rw [hb] at h
 simp at h
 exact hne h.2
end
end Go.Proofs.YtcfogipaadhbeaaGreatDoor

namespace Go.Proofs.YtcfogipaadhbeaaGreatDoor
open Go Go.RowKit Go.Proofs
end Go.Proofs.YtcfogipaadhbeaaGreatDoor

namespace Go.Proofs.YtcfogipaadhbeaaGreatDoor
open Go Go.RowKit Go.Proofs
end Go.Proofs.YtcfogipaadhbeaaGreatDoor

namespace Go.Proofs.YtcfogipaadhbeaaGreatDoor
open Go Go.RowKit Go.Proofs
end Go.Proofs.YtcfogipaadhbeaaGreatDoor

namespace Go.Proofs.YtcfogipaadhbeaaGreatDoor
open Go Go.RowKit Go.Proofs
def AnsR (w : World) (v : Value) (e : Ending) (w' : World) : Prop := e = .returned v ∧ Below w.heap.size w w'
end Go.Proofs.YtcfogipaadhbeaaGreatDoor

namespace Go.Proofs.YtcfogipaadhbeaaGreatDoor
open Go Go.RowKit Go.Proofs
end Go.Proofs.YtcfogipaadhbeaaGreatDoor

namespace Go.Proofs.YtcfogipaadhbeaaGreatDoor
open Go Go.RowKit Go.Proofs
def Short (p : PlaceM) : Prop := p.length ≤ 1000 ∧ ∀ l ∈ p, l.length ≤ 999
theorem Short.each {p : PlaceM} (h : Short p) : ∀ l ∈ p, l.length ≤ 1000 := fun l hl => by have := h.2 l hl; omega
end Go.Proofs.YtcfogipaadhbeaaGreatDoor

namespace Go.Proofs.YtcfogipaadhbeaaGreatDoor
open Go Go.RowKit Go.Proofs
end Go.Proofs.YtcfogipaadhbeaaGreatDoor

namespace Go.Proofs.YtcfogipaadhbeaaGreatDoor
open Go Go.RowKit Go.Proofs
end Go.Proofs.YtcfogipaadhbeaaGreatDoor

namespace Go.Proofs.YtcfogipaadhbeaaGreatDoor
open Go Go.RowKit Go.Proofs
end Go.Proofs.YtcfogipaadhbeaaGreatDoor

namespace Go.Proofs.YtcfogipaadhbeaaGreatDoor
open Go Go.RowKit Go.Proofs
def Room (n : Nat) (p : PlaceM) : Prop := p.length ≤ 1000 ∧ ∀ l ∈ p, l.length ≤ n
theorem Room.short {n : Nat} {p : PlaceM} (h : Room n p) (hn : n ≤ 999) : Short p := ⟨h.1, fun l hl => Nat.le_trans (h.2 l hl) hn⟩
theorem Room.mono {n n' : Nat} {p : PlaceM} (h : Room n p) (hn : n ≤ n') : Room n' p := ⟨h.1, fun l hl => Nat.le_trans (h.2 l hl) hn⟩
theorem Room.unitsP {n : Nat} {p : PlaceM} (h : Room n p) (item : Int) : (unitsP p item).length ≤ n := by
 unfold Go.Proofs.YtcfogipaadhbeaaGreatDoor.unitsP
 split
 · rename_i hi
   have hi2 : 1 ≤ item ∧ item ≤ (p.length : Int) := by simpa [exI] using hi
   have hj : (item - 1).toNat < p.length := by omega
   rw [List.getD_eq_getElem?_getD, List.getElem?_eq_getElem hj]
   exact h.2 _ (List.getElem_mem _)
 · simp
theorem Room.withP {n : Nat} {p : PlaceM} {item : Int} {l : List UnitM} (h : Room n p) (hl : l.length ≤ n) : Room n (withP p item l) := by
 refine ⟨by rw [withP_len]; exact h.1, fun x hx => ?_⟩
 unfold Go.Proofs.YtcfogipaadhbeaaGreatDoor.withP at hx
 split at hx
 · rcases List.mem_or_eq_of_mem_set hx with hx | rfl
   · exact h.2 x hx
   · exact hl
 · exact h.2 x hx
theorem dropU_len (l : List UnitM) (mc : Int) : (dropU l mc).length ≤ l.length := by
 unfold dropU
 split
 · exact Nat.le_refl _
 · simp; omega
theorem putU_len (l : List UnitM) (mc st : Int) : (putU l mc st).length ≤ l.length + 1 := by
 unfold putU
 split
 · simp
 · simp; omega
theorem Room.drop {n : Nat} {p : PlaceM} (h : Room n p) (item mc : Int) : Room n (dropP p item mc) := h.withP (Nat.le_trans (dropU_len _ _) (h.unitsP item))
theorem Room.put {n : Nat} {p : PlaceM} (h : Room n p) (item mc st : Int) : Room (n + 1) (putP p item mc st) := (h.mono (Nat.le_succ n)).withP (Nat.le_trans (putU_len _ _ _) (Nat.succ_le_succ (h.unitsP item)))
theorem Room.dropAll1 {n : Nat} {p : PlaceM} (h : Room n p) (item : Int) (k : Nat) : Room n (dropAll p item k) := by
 induction k with
 | zero => exact h
 | succ k ih => unfold dropAll; rw [List.range_succ, List.foldl_append]; exact Room.drop ih item _
theorem Room.putOld1 {n : Nat} {p : PlaceM} (h : Room n p) (m : Mod) (item k : Int) : Room (n + 1) (putOld m item p k) := by
 unfold putOld
 split
 · exact h.put _ _ _
 · exact h.mono (Nat.le_succ n)
theorem Room.putOlds (m : Mod) (item : Int) : ∀ (l : List Int) {n : Nat} {p : PlaceM}, Room n p → Room (n + l.length) (l.foldl (putOld m item) p)
 | [], _, _, h => h
 | a :: l, n, p, h => by
   have := Room.putOlds m item l (h.putOld1 m item a)
   simp only [List.foldl_cons, List.length_cons]
   exact this.mono (by omega)
theorem Room.after {n : Nat} {p : PlaceM} (h : Room n p) (m : Mod) (x : EvM) : Room (n + (x.old.length + 1)) (afterP m p x) := by
 unfold afterP
 split
 · exact (Room.putOlds m x.group x.old (h.dropAll1 x.group _)).mono (by omega)
 · split
   · exact (h.drop _ _).mono (by omega)
   · split <;> exact (h.put _ _ _).mono (by omega)
end Go.Proofs.YtcfogipaadhbeaaGreatDoor

namespace Go.Proofs.YtcfogipaadhbeaaGreatDoor
open Go Go.RowKit Go.Proofs
end Go.Proofs.YtcfogipaadhbeaaGreatDoor

namespace Go.Proofs.YtcfogipaadhbeaaGreatDoor
open Go Go.RowKit Go.Proofs
end Go.Proofs.YtcfogipaadhbeaaGreatDoor

namespace Go.Proofs.YtcfogipaadhbeaaGreatDoor
open Go Go.RowKit Go.Proofs
theorem Room.step {n : Nat} {p : PlaceM} (h : Room n p) (m : Mod) (x : EvM) (ho : x.old.length ≤ 10) : Room (n + 11) (stepP m p x) := by
 unfold stepP
 split
 · exact (h.after m x).mono (by omega)
 · exact h.mono (by omega)
structure Besides (g : Nat) (w w' : World) : Prop where
 os : w'.os = w.os
 tape : w'.tape = w.tape
 output : w'.output = w.output
 size : w.heap.size ≤ w'.heap.size
 block : ∀ k, k < w.heap.size → k ≠ g → w'.heap[k]? = w.heap[k]?
theorem Besides.trans {g : Nat} {a b c : World} (h : Besides g a b) (k : Besides g b c) : Besides g a c :=
 ⟨k.os.trans h.os, k.tape.trans h.tape, k.output.trans h.output, Nat.le_trans h.size k.size, fun i hi hn => (k.block i (Nat.lt_of_lt_of_le hi h.size) hn).trans (h.block i hi hn)⟩
theorem Besides.below {g : Nat} {w w' : World} (h : Below w.heap.size w w') : Besides g w w' := ⟨h.os, h.tape, h.output, h.size, fun k hk _ => h.block k hk⟩
theorem Besides.set_ {g : Nat} (w : World) (i : Nat) (u : Value) : Besides g w (w.setCell ⟨g, i, none⟩ u) :=
 ⟨rfl, rfl, rfl, by simp, fun k _ hn => Below.heap_setCell w ⟨g, i, none⟩ u k (fun e => hn e)⟩
theorem Besides.blk {g b : Nat} {w w' : World} {t : TypeId} {cs : Array Value} (h : Besides g w w') (hB : Blk w b t cs) (hn : b ≠ g) : Blk w' b t cs := (h.block b hB.lt hn).trans hB
end Go.Proofs.YtcfogipaadhbeaaGreatDoor

namespace Go.Proofs.YtcfogipaadhbeaaGreatDoor
open Go
theorem ok_rule {m : Mod} (hv : validM m = true) {r : RuleM} (hr : r ∈ m.uT) : ruleOk m r = true := by
 simp only [validM, Bool.and_eq_true, List.all_eq_true] at hv
 exact hv.1.2 r hr
theorem ok_item {m : Mod} (hv : validM m = true) {x : ItemM} (hx : x ∈ m.iT) : itemOk m x = true := by
 simp only [validM, Bool.and_eq_true, List.all_eq_true] at hv
 exact hv.1.1.2 x hx
theorem valid_kind {m : Mod} (hv : validM m = true) {x : ItemM} (hx : x ∈ m.iT) : x.kind = 0 ∨ x.kind = 1 ∨ x.kind = 2 := by
 have h := ok_item hv hx
 simp only [itemOk, Bool.and_eq_true] at h
 have h := h.2
 unfold itemKindB at h
 by_cases h0 : x.kind = 0
 · exact .inl h0
 by_cases h1 : x.kind = 1
 · exact .inr (.inl h1)
 by_cases h2 : x.kind = 2
 · exact .inr (.inr h2)
 rw [if_neg h0, if_neg h1, if_neg h2] at h
 cases h
theorem valid_sizes {m : Mod} (hv : validM m = true) : m.iT.length ≤ 8 ∧ m.uT.length ≤ 40 ∧ m.mT.length ≤ 16 ∧ m.rT.length ≤ 16 ∧ m.fT.length ≤ 16 ∧ m.sT.length ≤ 4 := by
 simp only [validM, siteB, exI, Bool.and_eq_true, decide_eq_true_eq] at hv
 omega
theorem incB_len {nm : Nat} {l : List Int} (h : incB nm l = true) : l.length ≤ nm := by
 simp only [incB, Bool.and_eq_true, decide_eq_true_eq, exI] at h
 obtain ⟨_, h⟩ := h
 have key : ∀ i (hi : i < l.length), (i : Int) + 1 ≤ l[i] := by
  intro i
  induction i with
  | zero => intro hi; have := (h 0 hi).1.1; omega
  | succ i ih =>
    intro hi
    have h1 := ih (by omega)
    have h2 := (h (i + 1) hi).2 (by omega)
    rw [Nat.add_sub_cancel, List.getD_eq_getElem?_getD, List.getElem?_eq_getElem (by omega), Option.getD_some] at h2
    omega
 rcases Nat.eq_zero_or_pos l.length with h0 | h0
 · omega
 · have h1 := key (l.length - 1) (by omega)
   have h2 := (h (l.length - 1) (by omega)).1.2
   omega
theorem valid_on {m : Mod} (hv : validM m = true) {x : ItemM} (hx : x ∈ m.iT) : x.on.length ≤ 16 := by
 have h := ok_item hv hx
 simp only [itemOk, Bool.and_eq_true] at h
 have := incB_len h.1.1.1.1
 have := (valid_sizes hv).2.2.1
 omega
theorem rule_n {m : Mod} {r : RuleM} (h : ruleOk m r = true) : 0 ≤ r.n ∧ r.n ≤ 200 := by
 unfold ruleOk at h
 repeat' split at h
 all_goals first | (simp [wiI] at h <;> omega) | cases h
theorem rule_machines {m : Mod} {r : RuleM} (h : ruleOk m r = true) : r.machines.length ≤ m.mT.length := by
 unfold ruleOk at h
 repeat' split at h
 all_goals first
  | (simp only [Bool.and_eq_true] at h; exact incB_len h.1.1.1.1.2)
  | (simp only [noList, Bool.and_eq_true, decide_eq_true_eq] at h; omega)
  | cases h
end Go.Proofs.YtcfogipaadhbeaaGreatDoor
