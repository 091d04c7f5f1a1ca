/- A part of the claim: see its last text. -/
import Derived.Test.YtlnjaemdelnceaaGreatDoorUK14
import Derived.Deep.MidRow
import Derived.Deep.WholeRow
import Derived.Deep.RegionLawGrows
import Derived.IntWalk

set_option maxRecDepth 100000
set_option maxHeartbeats 16000000
namespace Go.Proofs.YtlnjaemdelnceaaGreatDoor
open Go Go.RowKit Go.Proofs
def AnsR (w : World) (v : Value) (e : Ending) (w' : World) : Prop := e = .returned v ∧ Below w.heap.size w w'
theorem UT.first {w : World} {g off c n : Nat} {l : List UnitM} (h : UT w (.slice (some ⟨g, off, none⟩) l.length c) l) (hn : 0 < l.length) {k : Nat} (hk : k ≤ l.length) (he : n = k) : UT w (.slice (some ⟨g, off, none⟩) (l.take k).length n) (l.take k) := by
 obtain ⟨A', c', e, h1, h2, h3⟩ := h
 obtain ⟨g2, off2, cur, e2, hb, hc⟩ := h3 hn
 have e1 := (Value.slice.inj e).1
 rw [e2] at e1
 have := Option.some.inj e1
 obtain ⟨rfl, rfl⟩ : g = g2 ∧ off = off2 := by injection this with h1 h2; exact ⟨h1, h2⟩
 refine ⟨_, n, rfl, by simp; omega, by omega, fun _ => ⟨g, off, cur, rfl, hb, fun j u hu => hc j u ?_⟩⟩
 rw [← unitCells_take] at hu
 rw [List.getElem?_take] at hu
 split at hu
 · exact hu
 · cases hu
def Short (p : PlaceM) : Prop := p.length ≤ 1000 ∧ ∀ l ∈ p, l.length ≤ 999
theorem Short.units {p : PlaceM} (h : Short p) (item : Int) : (unitsP p item).length ≤ 999 := by
 unfold unitsP
 split
 · rename_i hi
   have hi2 : 1 ≤ item ∧ item ≤ (p.length : Int) := by simpa [exI] using hi
   have hj : (item - 1).toNat < p.length := by omega
   rw [List.getD_eq_getElem?_getD, List.getElem?_eq_getElem hj]
   exact h.2 _ (List.getElem_mem _)
 · simp
theorem Short.each {p : PlaceM} (h : Short p) : ∀ l ∈ p, l.length ≤ 1000 := fun l hl => by have := h.2 l hl; omega
theorem unitCells_set : ∀ (l : List UnitM) (i : Nat) (a b : Int), i < l.length → unitCells (l.set i (a, b)) = ((unitCells l).set (i * 2) (.int .i64 a)).set (i * 2 + 1) (.int .i64 b)
 | u :: l, 0, a, b, _ => rfl
 | u :: l, i + 1, a, b, h => by
   have := unitCells_set l i a b (by simpa using h)
   rw [show (i + 1) * 2 = i * 2 + 2 by omega]
   simp only [List.set_cons_succ]
   show unitCells (u :: l.set i (a, b)) = _
   simp only [unitCells, List.flatMap_cons] at this ⊢
   rw [this]
   rfl
theorem OwnU.set_ {B g c i : Nat} {w : World} {l : List UnitM} (h : OwnU B w (.slice (some ⟨g, 0, none⟩) l.length c) l) (hi : i < l.length) (a b : Int) :
    OwnU B ((w.setCell ⟨g, i * 2, none⟩ (.int .i64 a)).setCell ⟨g, i * 2 + 1, none⟩ (.int .i64 b)) (.slice (some ⟨g, 0, none⟩) l.length c) (l.set i (a, b)) ∧ w.grownBy ((w.setCell ⟨g, i * 2, none⟩ (.int .i64 a)).setCell ⟨g, i * 2 + 1, none⟩ (.int .i64 b)) (some g) := by
 obtain ⟨h1, g1⟩ := World.ownsRow.stored h (i * 2) (.int .i64 a)
 obtain ⟨h2, g2⟩ := World.ownsRow.stored h1 (i * 2 + 1) (.int .i64 b)
 refine ⟨?_, ⟨g2.os.trans g1.os, g2.tape.trans g1.tape, g2.output.trans g1.output, Nat.le_trans g1.size g2.size, fun k hk hne => (g2.block k (Nat.lt_of_lt_of_le hk g1.size) hne).trans (g1.block k hk hne)⟩⟩
 unfold OwnU
 rw [unitCells_set l i a b hi, List.length_set]
 exact h2
end Go.Proofs.YtlnjaemdelnceaaGreatDoor

namespace Go.Proofs.YtlnjaemdelnceaaGreatDoor
open Go Go.RowKit Go.Proofs
end Go.Proofs.YtlnjaemdelnceaaGreatDoor

namespace Go.Proofs.YtlnjaemdelnceaaGreatDoor
open Go Go.RowKit Go.Proofs
end Go.Proofs.YtlnjaemdelnceaaGreatDoor

namespace Go.Proofs.YtlnjaemdelnceaaGreatDoor
open Go Go.RowKit Go.Proofs
def Room (n : Nat) (p : PlaceM) : Prop := p.length ≤ 1000 ∧ ∀ l ∈ p, l.length ≤ n
theorem Room.short {n : Nat} {p : PlaceM} (h : Room n p) (hn : n ≤ 999) : Short p := ⟨h.1, fun l hl => Nat.le_trans (h.2 l hl) hn⟩
theorem Room.mono {n n' : Nat} {p : PlaceM} (h : Room n p) (hn : n ≤ n') : Room n' p := ⟨h.1, fun l hl => Nat.le_trans (h.2 l hl) hn⟩
theorem Room.unitsP {n : Nat} {p : PlaceM} (h : Room n p) (item : Int) : (unitsP p item).length ≤ n := by
 unfold Go.Proofs.YtlnjaemdelnceaaGreatDoor.unitsP
 split
 · rename_i hi
   have hi2 : 1 ≤ item ∧ item ≤ (p.length : Int) := by simpa [exI] using hi
   have hj : (item - 1).toNat < p.length := by omega
   rw [List.getD_eq_getElem?_getD, List.getElem?_eq_getElem hj]
   exact h.2 _ (List.getElem_mem _)
 · simp
theorem Room.withP {n : Nat} {p : PlaceM} {item : Int} {l : List UnitM} (h : Room n p) (hl : l.length ≤ n) : Room n (withP p item l) := by
 refine ⟨by rw [withP_len]; exact h.1, fun x hx => ?_⟩
 unfold Go.Proofs.YtlnjaemdelnceaaGreatDoor.withP at hx
 split at hx
 · rcases List.mem_or_eq_of_mem_set hx with hx | rfl
   · exact h.2 x hx
   · exact hl
 · exact h.2 x hx
theorem dropU_len (l : List UnitM) (mc : Int) : (dropU l mc).length ≤ l.length := by
 unfold dropU
 split
 · exact Nat.le_refl _
 · simp; omega
theorem putU_len (l : List UnitM) (mc st : Int) : (putU l mc st).length ≤ l.length + 1 := by
 unfold putU
 split
 · simp
 · simp; omega
theorem Room.drop {n : Nat} {p : PlaceM} (h : Room n p) (item mc : Int) : Room n (dropP p item mc) := h.withP (Nat.le_trans (dropU_len _ _) (h.unitsP item))
theorem Room.put {n : Nat} {p : PlaceM} (h : Room n p) (item mc st : Int) : Room (n + 1) (putP p item mc st) := (h.mono (Nat.le_succ n)).withP (Nat.le_trans (putU_len _ _ _) (Nat.succ_le_succ (h.unitsP item)))
theorem Room.dropAll1 {n : Nat} {p : PlaceM} (h : Room n p) (item : Int) (k : Nat) : Room n (dropAll p item k) := by
 induction k with
 | zero => exact h
 | succ k ih => unfold dropAll; rw [List.range_succ, List.foldl_append]; exact Room.drop ih item _
theorem Room.putOld1 {n : Nat} {p : PlaceM} (h : Room n p) (m : Mod) (item k : Int) : Room (n + 1) (putOld m item p k) := by
 unfold putOld
 split
 · exact h.put _ _ _
 · exact h.mono (Nat.le_succ n)
theorem Room.putOlds (m : Mod) (item : Int) : ∀ (l : List Int) {n : Nat} {p : PlaceM}, Room n p → Room (n + l.length) (l.foldl (putOld m item) p)
 | [], _, _, h => h
 | a :: l, n, p, h => by
   have := Room.putOlds m item l (h.putOld1 m item a)
   simp only [List.foldl_cons, List.length_cons]
   exact this.mono (by omega)
theorem Room.after {n : Nat} {p : PlaceM} (h : Room n p) (m : Mod) (x : EvM) : Room (n + (x.old.length + 1)) (afterP m p x) := by
 unfold afterP
 split
 · exact (Room.putOlds m x.group x.old (h.dropAll1 x.group _)).mono (by omega)
 · split
   · exact (h.drop _ _).mono (by omega)
   · split <;> exact (h.put _ _ _).mono (by omega)
def initU (l : List Int) : List UnitM := l.map fun k => (k, 0)
theorem initU_len (l : List Int) : (initU l).length = l.length := by simp [initU]
theorem initU_snoc (l : List Int) {k : Nat} (hk : k < l.length) : initU (l.take k) ++ [(l[k], 0)] = initU (l.take (k + 1)) := by
 rw [List.take_succ_eq_append_getElem hk]
 simp only [initU, List.map_append, List.map_cons, List.map_nil]
theorem initP_len (m : Mod) : (initP m).length = m.iT.length := by simp [initP]
theorem initP_at (m : Mod) (k : Nat) (hk : k < m.iT.length) : (initP m).take k ++ [initU m.iT[k].on] = (initP m).take (k + 1) := by
 rw [List.take_succ_eq_append_getElem (by rw [initP_len]; exact hk)]
 congr 2
 simp [initP, initU]
structure InitS (m : Mod) (h : MH) (w wr : World) (k : Nat) (A : Option Addr) (c : Nat) : Prop where
 b : Below w.heap.size w wr
 bm : Blk wr w.heap.size 29 #[.slice h.s m.sT.length h.sc, .slice h.f m.fT.length h.fc, .slice h.r m.rT.length h.rc, .slice h.m m.mT.length h.mc, .slice h.l m.lT.length h.lc, .slice h.i m.iT.length h.ic, .int .i64 m.dT, .int .i64 m.oT, .int .i64 m.vT, .int .i64 m.aT, .slice h.u m.uT.length h.uc]
 br : Blk wr (w.heap.size + 1) 35 #[.slice none 0 0]
 bx : Blk wr (w.heap.size + 1 + 1) 35 #[.slice A k c]
 op : OP (w.heap.size + 3) wr (.slice A k c) ((initP m).take k)
theorem InitS.next {m : Mod} {h : MH} {w wr W w1 w3 : World} {k c c4 : Nat} {A A4 : Option Addr} {q : PlaceM} {o : Obj} (s : InitS m h w wr k A c) (hbW : Below wr.heap.size wr W) (hb1 : Below W.drew.heap.size W.drew w1)
    (hg : (w1.alloc o).grownBy w3 (Value.slice A k c).ownBlock) (ho : OP (w.heap.size + 3) (w1.alloc o) (.slice A k c) q) (h3 : OP (w.heap.size + 3) w3 (.slice A4 (k + 1) c4) ((initP m).take (k + 1))) :
    InitS m h w (w3.setCell ⟨w.heap.size + 1 + 1, 0, none⟩ (.slice A4 (k + 1) c4)) (k + 1) A4 c4 := by
 have hbW1 : Below wr.heap.size wr (w1.alloc o) := (hbW.drew.trans (hb1.mono hbW.size)).alloc (by have := hbW.size; have := hb1.size; simp at this; omega) o
 have hne : ∀ g, g < w.heap.size + 3 → some g ≠ (Value.slice A k c).ownBlock := fun g hgl e => by have := (ho.lt _ e.symm).1; omega
 have b3 : ∀ {g : Nat} {T : TypeId} {cs : Array Value}, Blk wr g T cs → g < w.heap.size + 3 → Blk w3 g T cs := fun hb hgl => (hb.below hbW1 hb.lt).grown hg (hne _ hgl)
 have hx3 := b3 s.bx (by omega)
 refine ⟨?_, (b3 s.bm (by omega)).far (by simp <;> omega) _, (b3 s.br (by omega)).far (by simp <;> omega) _, ?_, ?_⟩
 · refine (Below.grown (s.b.trans (hbW1.mono s.b.size)) hg (Nat.le_trans s.b.size hbW1.size) fun g e => ?_).setCell (by simp <;> omega) _
   have := (ho.lt _ e).1
   omega
 · simpa using hx3.set_ 0 (.slice A4 (k + 1) c4)
 · exact h3.keep (KT.set_ hx3 (by decide) 0 _) (KT.set_ hx3 (by decide) 0 _)
theorem Room.step {n : Nat} {p : PlaceM} (h : Room n p) (m : Mod) (x : EvM) (ho : x.old.length ≤ 10) : Room (n + 11) (stepP m p x) := by
 unfold stepP
 split
 · exact (h.after m x).mono (by omega)
 · exact h.mono (by omega)
structure VisR (B0 bp : Nat) (wr w' : World) : Prop where
 b : Below B0 wr w'
 km : KT 29 wr w'
 ku : KT 87 wr w'
 kr : KT 83 wr w'
 kp : ∀ cs, Blk wr bp 35 cs → Blk w' bp 35 cs
theorem VisR.refl (B0 bp : Nat) (w : World) : VisR B0 bp w w := ⟨Below.refl _ _, KT.refl _ _, KT.refl _ _, KT.refl _ _, fun _ h => h⟩
structure Besides (g : Nat) (w w' : World) : Prop where
 os : w'.os = w.os
 tape : w'.tape = w.tape
 output : w'.output = w.output
 size : w.heap.size ≤ w'.heap.size
 block : ∀ k, k < w.heap.size → k ≠ g → w'.heap[k]? = w.heap[k]?
theorem Besides.trans {g : Nat} {a b c : World} (h : Besides g a b) (k : Besides g b c) : Besides g a c :=
 ⟨k.os.trans h.os, k.tape.trans h.tape, k.output.trans h.output, Nat.le_trans h.size k.size, fun i hi hn => (k.block i (Nat.lt_of_lt_of_le hi h.size) hn).trans (h.block i hi hn)⟩
theorem Besides.below {g : Nat} {w w' : World} (h : Below w.heap.size w w') : Besides g w w' := ⟨h.os, h.tape, h.output, h.size, fun k hk _ => h.block k hk⟩
theorem Besides.set_ {g : Nat} (w : World) (i : Nat) (u : Value) : Besides g w (w.setCell ⟨g, i, none⟩ u) :=
 ⟨rfl, rfl, rfl, by simp, fun k _ hn => Below.heap_setCell w ⟨g, i, none⟩ u k (fun e => hn e)⟩
theorem Besides.toBelow {g B : Nat} {w w' : World} (h : Besides g w w') (hB : B ≤ g) (hw : B ≤ w.heap.size) : Below B w w' := ⟨h.os, h.tape, h.output, h.size, fun k hk => h.block k (by omega) (by omega)⟩
theorem Besides.blk {g b : Nat} {w w' : World} {t : TypeId} {cs : Array Value} (h : Besides g w w') (hB : Blk w b t cs) (hn : b ≠ g) : Blk w' b t cs := (h.block b hB.lt hn).trans hB
structure WalkS (B0 bm bp : Nat) (w : World) (h : MH) (m : Mod) (wr : World) (q : PlaceM) : Prop where
 b : Below B0 w wr
 bm : Blk wr bm 29 #[.slice h.s m.sT.length h.sc, .slice h.f m.fT.length h.fc, .slice h.r m.rT.length h.rc, .slice h.m m.mT.length h.mc, .slice h.l m.lT.length h.lc, .slice h.i m.iT.length h.ic, .int .i64 m.dT, .int .i64 m.oT, .int .i64 m.vT, .int .i64 m.aT, .slice h.u m.uT.length h.uc]
 bp : ∃ A c, Blk wr bp 35 #[.slice A q.length c] ∧ PT wr (.slice A q.length c) q
theorem WalkS.grow {B0 bm bp : Nat} {w wr w1 : World} {h : MH} {m : Mod} {q : PlaceM} (s : WalkS B0 bm bp w h m wr q) (hB : B0 ≤ wr.heap.size) (hb : Below wr.heap.size wr w1) : WalkS B0 bm bp w h m w1 q := by
 obtain ⟨A0, c0, h0, hP⟩ := s.bp
 exact ⟨s.b.trans (hb.mono hB), s.bm.below hb s.bm.lt, A0, c0, h0.below hb h0.lt, hP.below hb⟩
theorem WalkS.next {B0 bm bp : Nat} {w wr w1 : World} {h : MH} {m : Mod} {q q' : PlaceM} {A : Option Addr} {c : Nat} (s : WalkS B0 bm bp w h m wr q) (hB : B0 ≤ wr.heap.size) (hBp : B0 ≤ bp) (hb : Below wr.heap.size wr w1) (hp : PT w1 (.slice A q'.length c) q') :
    WalkS B0 bm bp w h m (w1.setCell ⟨bp, 0, none⟩ (.slice A q'.length c)) q' := by
 obtain ⟨A0, c0, h0, _⟩ := s.bp
 have h1 := h0.below hb h0.lt
 refine ⟨(s.b.trans (hb.mono hB)).setCell (by simpa using hBp) _, (s.bm.below hb s.bm.lt).far (fun e => ?_) _, A, c, by simpa using h1.set_ 0 (.slice A q'.length c), hp.keep (KT.set_ h1 (by decide) 0 _) (KT.set_ h1 (by decide) 0 _)⟩
 have h2 := s.bm.below hb s.bm.lt
 simp only at e
 subst e
 rw [Blk] at h1 h2
 rw [h1] at h2
 simp at h2
end Go.Proofs.YtlnjaemdelnceaaGreatDoor

namespace Go.Proofs.YtlnjaemdelnceaaGreatDoor
open Go
theorem ok_rule {m : Mod} (hv : validM m = true) {r : RuleM} (hr : r ∈ m.uT) : ruleOk m r = true := by
 simp only [validM, Bool.and_eq_true, List.all_eq_true] at hv
 exact hv.1.2 r hr
theorem ok_item {m : Mod} (hv : validM m = true) {x : ItemM} (hx : x ∈ m.iT) : itemOk m x = true := by
 simp only [validM, Bool.and_eq_true, List.all_eq_true] at hv
 exact hv.1.1.2 x hx
theorem valid_kind {m : Mod} (hv : validM m = true) {x : ItemM} (hx : x ∈ m.iT) : x.kind = 0 ∨ x.kind = 1 ∨ x.kind = 2 := by
 have h := ok_item hv hx
 simp only [itemOk, Bool.and_eq_true] at h
 have h := h.2
 unfold itemKindB at h
 by_cases h0 : x.kind = 0
 · exact .inl h0
 by_cases h1 : x.kind = 1
 · exact .inr (.inl h1)
 by_cases h2 : x.kind = 2
 · exact .inr (.inr h2)
 rw [if_neg h0, if_neg h1, if_neg h2] at h
 cases h
theorem valid_sizes {m : Mod} (hv : validM m = true) : m.iT.length ≤ 8 ∧ m.uT.length ≤ 40 ∧ m.mT.length ≤ 16 ∧ m.rT.length ≤ 16 ∧ m.fT.length ≤ 16 ∧ m.sT.length ≤ 4 := by
 simp only [validM, siteB, exI, Bool.and_eq_true, decide_eq_true_eq] at hv
 omega
theorem incB_len {nm : Nat} {l : List Int} (h : incB nm l = true) : l.length ≤ nm := by
 simp only [incB, Bool.and_eq_true, decide_eq_true_eq, exI] at h
 obtain ⟨_, h⟩ := h
 have key : ∀ i (hi : i < l.length), (i : Int) + 1 ≤ l[i] := by
  intro i
  induction i with
  | zero => intro hi; have := (h 0 hi).1.1; omega
  | succ i ih =>
    intro hi
    have h1 := ih (by omega)
    have h2 := (h (i + 1) hi).2 (by omega)
    rw [Nat.add_sub_cancel, List.getD_eq_getElem?_getD, List.getElem?_eq_getElem (by omega), Option.getD_some] at h2
    omega
 rcases Nat.eq_zero_or_pos l.length with h0 | h0
 · omega
 · have h1 := key (l.length - 1) (by omega)
   have h2 := (h (l.length - 1) (by omega)).1.2
   omega
theorem valid_on {m : Mod} (hv : validM m = true) {x : ItemM} (hx : x ∈ m.iT) : x.on.length ≤ 16 := by
 have h := ok_item hv hx
 simp only [itemOk, Bool.and_eq_true] at h
 have := incB_len h.1.1.1.1
 have := (valid_sizes hv).2.2.1
 omega
theorem rule_machines {m : Mod} {r : RuleM} (h : ruleOk m r = true) : r.machines.length ≤ m.mT.length := by
 unfold ruleOk at h
 repeat' split at h
 all_goals first
  | (simp only [Bool.and_eq_true] at h; exact incB_len h.1.1.1.1.2)
  | (simp only [noList, Bool.and_eq_true, decide_eq_true_eq] at h; omega)
  | cases h
end Go.Proofs.YtlnjaemdelnceaaGreatDoor
