/- Words for memory used by all texts of this seat: a slice that reads as a list, and small facts about worlds. Conditions: none. Plain Lean: the first element with a property. Conditions: none. Plain Lean: the declarations of chapter 17, their validity and their text. No program in sight. Conditions: none. The walks of package catalog's IsName and of slices.IndexFunc, ContainsFunc over strings and ints. Conditions: lengths that fit memory; the tables of package strings are laid. -/
import Derived.Below
import Derived.Laws.OwnMore
import Derived.Deep.AppendLies
import Derived.Deep.Draws
import Derived.Laws.Rows
import Derived.Maps.AppendAt
import Derived.RegionTactic
import Derived.OwnWalk
import Derived.WalkKit
import Derived.WalkSpells
import Derived.WalkLawsBesides
import Derived.Test.YtpggamapmgpjcaaGreatDoorShelf
import Derived.Laws.RangeString
import Derived.Laws.RangeAny
import Derived.Shelf.Strings.FuncGrows

namespace Go.Proofs.YtpggamapmgpjcaaGreatDoor
open Go Go.RowKit

theorem block_of_add (a : Addr) (n : Nat) : (a.add n).block = a.block := by unfold Addr.add; split <;> rfl
theorem add_of_add (a : Addr) (i j : Nat) : (a.add i).add j = a.add (i + j) := by
  unfold Addr.add
  by_cases hi : i = 0 <;> by_cases hj : j = 0 <;> simp [hi, hj, Nat.add_assoc]

/-- The slice value '.slice A n c' holds the cells xs, below block B. -/
def Reads (w : World) (B size : Nat) (A : Option Addr) (n : Nat) (xs : List Value) : Prop :=
  xs.length = n * size ∧ (0 < n → ∃ ad, A = some ad ∧ ad.block < B ∧ ∀ j u, xs[j]? = some u → w.cell? (ad.add j) = some u)

section
variable {w w' : World} {B B' size n : Nat} {A : Option Addr} {xs : List Value}
theorem Reads.none_ : Reads w B size A 0 [] := ⟨by simp, fun h => absurd h (by omega)⟩
theorem Reads.at_ {k : Nat} (h : Reads w B 1 A n xs) (hk : k < n) : ∃ ad u, A = some ad ∧ ad.block < B ∧ xs[k]? = some u ∧ w.cell? (ad.add k) = some u := by
  obtain ⟨ad, e, hb, hc⟩ := h.2 (by omega)
  have hl : k < xs.length := by have := h.1; omega
  exact ⟨ad, xs[k], e, hb, List.getElem?_eq_getElem hl, hc k _ (List.getElem?_eq_getElem hl)⟩
theorem Reads.keep (h : Reads w B size A n xs) (hk : ∀ p : Addr, p.block < B → w'.cell? p = w.cell? p) : Reads w' B size A n xs :=
  ⟨h.1, fun hn => by
    obtain ⟨ad, e, hb, hc⟩ := h.2 hn
    exact ⟨ad, e, hb, fun j u hu => (hk _ (by rw [block_of_add]; exact hb)).trans (hc j u hu)⟩⟩
theorem Reads.more (h : Reads w B size A n xs) (hB : B ≤ B') : Reads w B' size A n xs :=
  ⟨h.1, fun hn => by
    obtain ⟨ad, e, hb, hc⟩ := h.2 hn
    exact ⟨ad, e, by omega, hc⟩⟩
theorem Reads.below (h : Reads w B size A n xs) (hb : Below B w w') : Reads w' B size A n xs := h.keep fun _ hp => hb.cell hp
theorem Reads.drew (h : Reads w B size A n xs) : Reads w.drew B size A n xs := h
theorem Reads.drewN (h : Reads w B size A n xs) (k : Nat) : Reads (w.drewN k) B size A n xs := h
theorem Reads.alloc (h : Reads w B size A n xs) (hB : B ≤ w.heap.size) (o : Obj) : Reads (w.alloc o) B size A n xs := h.keep fun p hp => World.cell?_alloc_lt w o p (by omega)
theorem Reads.setCell (h : Reads w B size A n xs) {p : Addr} (hB : B ≤ p.block) (u : Value) : Reads (w.setCell p u) B size A n xs :=
  h.keep fun q hq => World.cell?_setCell_other w p q u (fun e => by subst e; omega)
theorem Reads.grown (h : Reads w B size A n xs) {row : Option Nat} (hg : w.grownBy w' row) (hB : B ≤ w.heap.size) (hr : ∀ g, row = some g → B ≤ g) : Reads w' B size A n xs :=
  h.keep fun p hp => World.cell?_of_block (hg.block p.block (by omega) (fun e => by have := hr _ e.symm; omega))
theorem Reads.cut (h : Reads w B size A n xs) {k cap : Nat} (hk : k ≤ n) (hc : n ≤ cap) :
    Reads w B size (if cap = k then A else A.map (·.add (k * size))) (n - k) (xs.drop (k * size)) := by
  refine ⟨by rw [List.length_drop, h.1, Nat.sub_mul], fun hn => ?_⟩
  obtain ⟨ad, rfl, hb, hcell⟩ := h.2 (by omega)
  rw [if_neg (by omega)]
  refine ⟨ad.add (k * size), rfl, by rw [block_of_add]; exact hb, fun j u hu => ?_⟩
  rw [add_of_add]
  exact hcell _ u (by rw [← hu, List.getElem?_drop])
theorem Reads.of_own {base : Nat} {e : TypeId} {c : Nat} (h : w.ownsRow base e size (.slice A n c) n xs) : Reads w w.heap.size size A n xs := by
  refine ⟨h.1, fun hn => ?_⟩
  obtain ⟨g, cap, hv, _, hlt⟩ := h.form hn
  have hA : A = some ⟨g, 0, none⟩ := by injection hv
  subst hA
  exact ⟨_, rfl, hlt, h.cells (g := g) rfl⟩
end

/-- A slice of strings. -/
def Strs (w : World) (B : Nat) (A : Option Addr) (l : List ByteArray) : Prop := Reads w B 1 A l.length (l.map .string)
/-- A slice of ints. -/
def Ints (w : World) (B : Nat) (A : Option Addr) (l : List Int) : Prop := Reads w B 1 A l.length (l.map (.int .i64))

section
variable {w w' : World} {B B' : Nat} {A : Option Addr}
theorem Strs.at_ {l : List ByteArray} (h : Strs w B A l) {k : Nat} (hk : k < l.length) : ∃ ad, A = some ad ∧ ad.block < B ∧ w.cell? (ad.add k) = some (.string l[k]) := by
  obtain ⟨ad, u, e, hb, hx, hc⟩ := Reads.at_ h hk
  simp [hk] at hx
  subst hx
  exact ⟨ad, e, hb, hc⟩
theorem Ints.at_ {l : List Int} (h : Ints w B A l) {k : Nat} (hk : k < l.length) : ∃ ad, A = some ad ∧ ad.block < B ∧ w.cell? (ad.add k) = some (.int .i64 l[k]) := by
  obtain ⟨ad, u, e, hb, hx, hc⟩ := Reads.at_ h hk
  simp [hk] at hx
  subst hx
  exact ⟨ad, e, hb, hc⟩
theorem Strs.below {l : List ByteArray} (h : Strs w B A l) (hb : Below B w w') : Strs w' B A l := Reads.below h hb
theorem Ints.below {l : List Int} (h : Ints w B A l) (hb : Below B w w') : Ints w' B A l := Reads.below h hb
theorem Strs.keep {l : List ByteArray} (h : Strs w B A l) (hk : ∀ p : Addr, p.block < B → w'.cell? p = w.cell? p) : Strs w' B A l := Reads.keep h hk
theorem Ints.keep {l : List Int} (h : Ints w B A l) (hk : ∀ p : Addr, p.block < B → w'.cell? p = w.cell? p) : Ints w' B A l := Reads.keep h hk
theorem Strs.more {l : List ByteArray} (h : Strs w B A l) (hB : B ≤ B') : Strs w B' A l := Reads.more h hB
theorem Ints.more {l : List Int} (h : Ints w B A l) (hB : B ≤ B') : Ints w B' A l := Reads.more h hB
end

theorem cell?_new (w : World) (cs : Array Value) (t : TypeId) (i : Nat) : (w.alloc (.cells cs t)).cell? ⟨w.heap.size, i, none⟩ = cs[i]? :=
  cell_of_row _ w.heap.size i cs t (0, 0) (heap_alloc_new w _)
theorem Reads.newRow (w : World) (cs : Array Value) (t : TypeId) (n size : Nat) (h : cs.size = n * size) :
    Reads (w.alloc (.cells cs t)) (w.heap.size + 1) size (some ⟨w.heap.size, 0, none⟩) n cs.toList :=
  ⟨by simpa using h, fun _ => ⟨_, rfl, by simp, fun j u hu => by
    have e : (⟨w.heap.size, 0, none⟩ : Addr).add j = ⟨w.heap.size, j, none⟩ := by unfold Addr.add; split <;> simp_all
    rw [e, cell?_new]; simpa using hu⟩⟩
theorem Strs.newRow (w : World) (t : TypeId) (l : List ByteArray) :
    Strs (w.alloc (.cells (l.map Value.string).toArray t)) (w.heap.size + 1) (some ⟨w.heap.size, 0, none⟩) l := by
  have := Reads.newRow w (l.map Value.string).toArray t l.length 1 (by simp)
  simpa [Strs] using this
/-- below the old size all cells and marks read as before -/
theorem bcell {W W1 : World} {B : Nat} (hb : Below B W W1) : (∀ b o, b < B → W1.cell? ⟨b, o, none⟩ = W.cell? ⟨b, o, none⟩) ∧ (∀ b o, b < B → W1.frozen? ⟨b, o, none⟩ = W.frozen? ⟨b, o, none⟩) :=
  ⟨fun b o h => hb.cell (p := ⟨b, o, none⟩) h, fun b o h => hb.frozen (p := ⟨b, o, none⟩) h⟩
theorem hide {p : Prop} (h : p) : Hid p := h
/-- block g is just the cells cs of element type t, none frozen -/
def Blk (w : World) (g : Nat) (t : TypeId) (cs : Array Value) : Prop := w.heap[g]? = some (.cells cs t (0, 0))
section
variable {w w' : World} {g : Nat} {t : TypeId} {cs : Array Value}
theorem Blk.lt (h : Blk w g t cs) : g < w.heap.size := by
  rcases Nat.lt_or_ge g w.heap.size with hlt | hge
  · exact hlt
  · unfold Blk at h; rw [Array.getElem?_eq_none hge] at h; cases h
theorem Blk.cell (h : Blk w g t cs) (i : Nat) : w.cell? ⟨g, i, none⟩ = cs[i]? := cell_of_row w g i cs t (0, 0) h
theorem Blk.frozen (h : Blk w g t cs) (i : Nat) : w.frozen? ⟨g, i, none⟩ = false := by
  unfold Blk at h
  simp [World.frozen?, h]
theorem Blk.new (w : World) (t : TypeId) (cs : Array Value) : Blk (w.alloc (.cells cs t)) w.heap.size t cs := heap_alloc_new w _
theorem Blk.drew (h : Blk w g t cs) : Blk w.drew g t cs := h
theorem Blk.drewN (h : Blk w g t cs) (n : Nat) : Blk (w.drewN n) g t cs := h
theorem Blk.alloc (h : Blk w g t cs) (o : Obj) : Blk (w.alloc o) g t cs := (Below.heap_alloc w o g h.lt).trans h
theorem Blk.set_ (h : Blk w g t cs) (i : Nat) (u : Value) : Blk (w.setCell ⟨g, i, none⟩ u) g t (cs.setIfInBounds i u) := by
  unfold Blk at h ⊢
  simp [World.setCell, Array.getElem?_modify, h]
theorem Blk.far (h : Blk w g t cs) {p : Addr} (hp : g ≠ p.block) (u : Value) : Blk (w.setCell p u) g t cs := (Below.heap_setCell w p u g hp).trans h
theorem Blk.below {B : Nat} (h : Blk w g t cs) (hb : Below B w w') (hg : g < B) : Blk w' g t cs := (hb.block g hg).trans h
theorem Blk.grown {row : Option Nat} (h : Blk w g t cs) (hb : w.grownBy w' row) (hg : some g ≠ row) : Blk w' g t cs := (hb.block g h.lt hg).trans h
end
theorem add_none (b off j : Nat) : (⟨b, off, none⟩ : Addr).add j = ⟨b, off + j, none⟩ := by unfold Addr.add; split <;> simp_all
theorem Reads.form {w : World} {B size n : Nat} {A : Option Addr} {xs : List Value} (h : Reads w B size A n xs) (hn : 0 < xs.length) :
    ∃ b off, A = some ⟨b, off, none⟩ ∧ b < B ∧ ∀ j u, xs[j]? = some u → w.cell? ⟨b, off + j, none⟩ = some u := by
  obtain ⟨⟨b, off, spot⟩, rfl, hb, hc⟩ := h.2 (by have := h.1; rcases Nat.eq_zero_or_pos n with h0 | h0; (rw [h0] at this; omega); exact h0)
  have h0 := hc 0 xs[0] (by simp [hn])
  have hs : spot = none := by simpa [Addr.add] using World.cell?_spot h0
  subst hs
  exact ⟨b, off, rfl, hb, fun j u hu => by rw [← add_none]; exact hc j u hu⟩
theorem Strs.form {w : World} {B : Nat} {A : Option Addr} {l : List ByteArray} (h : Strs w B A l) (hn : l ≠ []) :
    ∃ b off, A = some ⟨b, off, none⟩ ∧ b < B ∧ ∀ j, j < l.length → w.cell? ⟨b, off + j, none⟩ = some (.string (l.getD j ByteArray.empty)) := by
  obtain ⟨b, off, e, hb, hc⟩ := Reads.form h (by simpa using List.length_pos_iff.2 hn)
  exact ⟨b, off, e, hb, fun j hj => hc j _ (by simp [hj])⟩
theorem Ints.form {w : World} {B : Nat} {A : Option Addr} {l : List Int} (h : Ints w B A l) (hn : l ≠ []) :
    ∃ b off, A = some ⟨b, off, none⟩ ∧ b < B ∧ ∀ j, j < l.length → w.cell? ⟨b, off + j, none⟩ = some (.int .i64 (l.getD j 0)) := by
  obtain ⟨b, off, e, hb, hc⟩ := Reads.form h (by simpa using List.length_pos_iff.2 hn)
  exact ⟨b, off, e, hb, fun j hj => hc j _ (by simp [hj])⟩
theorem ret_congr {a b : Value} (h : a = b) : Ending.returned a = .returned b := by rw [h]
end Go.Proofs.YtpggamapmgpjcaaGreatDoor

namespace Go.Proofs.YtpggamapmgpjcaaGreatDoor
open Go

/-- the index of the first element that p answers yes, or -1 -/
def firstI {α : Type} (p : α → Bool) (l : List α) : Int := match l.findIdx? p with | some k => k | none => -1
theorem firstI_at {α : Type} {p : α → Bool} {l : List α} {k : Nat} (hk : k < l.length) (h : p l[k] = true) (hb : ∀ j (hj : j < l.length), j < k → p l[j] = false) : firstI p l = k := by
  have : l.findIdx? p = some k := by
    rw [List.findIdx?_eq_some_iff_getElem]
    exact ⟨hk, h, fun j hj => by simpa using hb j (by omega) hj⟩
  rw [firstI, this]
theorem firstI_none {α : Type} {p : α → Bool} {l : List α} (hb : ∀ j (hj : j < l.length), p l[j] = false) : firstI p l = -1 := by
  have : l.findIdx? p = none := by
    rw [List.findIdx?_eq_none_iff]
    intro x hx; obtain ⟨j, hj, rfl⟩ := List.getElem_of_mem hx; exact hb j hj
  rw [firstI, this]
theorem firstI_any {α : Type} (p : α → Bool) (l : List α) : decide (0 ≤ firstI p l) = l.any p := by
  rw [firstI]
  cases h : l.findIdx? p with
  | some k =>
    have := (List.findIdx?_eq_some_iff_getElem.1 h)
    obtain ⟨hk, hp, _⟩ := this
    have ha : l.any p = true := by rw [List.any_eq_true]; exact ⟨l[k], List.getElem_mem _, hp⟩
    rw [ha]; simp
  | none =>
    rw [List.findIdx?_eq_none_iff] at h
    have ha : l.any p = false := by rw [List.any_eq_false]; intro x hx; simp [h x hx]
    rw [ha]; rfl

end Go.Proofs.YtpggamapmgpjcaaGreatDoor

namespace Go.Proofs.YtpggamapmgpjcaaGreatDoor
open Go

theorem toList_beq (a b : ByteArray) : (a.toList == b.toList) = decide (a = b) := by
  rw [ByteArray.toList_eq, ByteArray.toList_eq, Bool.eq_iff_iff]
  simp [ByteArray.ext_iff]
theorem toList_beq_true {a b : ByteArray} (h : a = b) : (a.toList == b.toList) = true := by rw [toList_beq]; simpa
theorem toList_beq_false {a b : ByteArray} (h : ¬ a = b) : (a.toList == b.toList) = false := by rw [toList_beq]; simpa
theorem eq_of_toList {a b : ByteArray} (h : (a.toList == b.toList) = true) : a = b := by rw [toList_beq] at h; simpa using h
theorem ne_of_toList {a b : ByteArray} (h : (a.toList == b.toList) = false) : a ≠ b := by rw [toList_beq] at h; simpa using h

/-- the bytes of a list as a string -/
def S (l : List UInt8) : ByteArray := ⟨l.toArray⟩
theorem S_data (l : List UInt8) : (S l).data.toList = l := rfl
theorem data_S (s : ByteArray) : S s.data.toList = s := rfl
theorem S_inj {a b : List UInt8} (h : S a = S b) : a = b := by rw [← S_data a, ← S_data b, h]
theorem S_append (a b : List UInt8) : S (a ++ b) = S a ++ S b := by
  rw [ByteArray.ext_iff]; simp [S]

structure Decl where
  kind : Int
  name : ByteArray
  refs : List ByteArray
  nums : List Int
  by_ : Int
  always : Bool

def letterI (c : Int) : Bool := decide (97 ≤ c) && decide (c ≤ 122)
def digitI (c : Int) : Bool := decide (48 ≤ c) && decide (c ≤ 57)
def nameI (c : Int) : Bool := letterI c || digitI c || decide (c = 95)
def keywords : List ByteArray := [(⟨#[97, 108, 119, 97, 121, 115]⟩ : ByteArray), (⟨#[98, 101, 102, 111, 114, 101]⟩ : ByteArray), (⟨#[98, 121]⟩ : ByteArray), (⟨#[99, 97, 112, 97, 99, 105, 116, 121]⟩ : ByteArray), (⟨#[100, 97, 114, 107]⟩ : ByteArray), (⟨#[100, 105, 115, 116, 117, 114, 98]⟩ : ByteArray), (⟨#[102, 97, 105, 108, 117, 114, 101, 115]⟩ : ByteArray), (⟨#[102, 101, 101, 100]⟩ : ByteArray), (⟨#[103, 114, 111, 117, 112]⟩ : ByteArray), (⟨#[105, 110]⟩ : ByteArray), (⟨#[106, 111, 98]⟩ : ByteArray), (⟨#[107, 101, 101, 112]⟩ : ByteArray), (⟨#[108, 105, 110, 107]⟩ : ByteArray), (⟨#[108, 111, 97, 100]⟩ : ByteArray), (⟨#[109, 97, 99, 104, 105, 110, 101]⟩ : ByteArray), (⟨#[111, 110]⟩ : ByteArray), (⟨#[111, 110, 108, 121]⟩ : ByteArray), (⟨#[111, 114, 100, 101, 114]⟩ : ByteArray), (⟨#[112, 111, 111, 108]⟩ : ByteArray), (⟨#[113, 117, 111, 114, 117, 109]⟩ : ByteArray), (⟨#[114, 97, 99, 107]⟩ : ByteArray), (⟨#[114, 101, 115, 101, 114, 118, 101]⟩ : ByteArray), (⟨#[115, 104, 97, 114, 101]⟩ : ByteArray), (⟨#[115, 105, 108, 101, 110, 99, 101]⟩ : ByteArray), (⟨#[115, 105, 116, 101]⟩ : ByteArray), (⟨#[115, 105, 122, 101]⟩ : ByteArray), (⟨#[115, 108, 111, 116, 115]⟩ : ByteArray), (⟨#[115, 112, 114, 101, 97, 100]⟩ : ByteArray)]
def hasS (l : List ByteArray) (s : ByteArray) : Bool := l.any (fun x => decide (x = s))
theorem hasS_iff {l : List ByteArray} {s : ByteArray} : hasS l s = true ↔ s ∈ l := by simp [hasS]
def isName (s : ByteArray) : Bool :=
  decide (1 ≤ s.size) && decide (s.size ≤ 31) && letterI (s.data.toList.getD 0 0).toNat && !hasS keywords s && s.data.toList.all (fun c => nameI c.toNat)

/-- the form of a kind: its word, whether it has a name, the least and greatest number of references, the number of numbers, whether By may be v, whether Always may be set -/
structure Form where
  word : ByteArray
  name : Bool
  least : Nat
  most : Nat
  numbers : Nat
  by_ : Int → Bool
  always : Bool
def zeroI (n : Int) : Bool := decide (n = 0)
def form? (k : Int) : Option Form :=
  if k = 0 then some ⟨(⟨#[115, 105, 116, 101]⟩ : ByteArray), true, 0, 0, 0, zeroI, false⟩
  else if k = 1 then some ⟨(⟨#[102, 101, 101, 100]⟩ : ByteArray), true, 0, 0, 0, zeroI, false⟩
  else if k = 2 then some ⟨(⟨#[114, 97, 99, 107]⟩ : ByteArray), true, 2, 2, 0, zeroI, false⟩
  else if k = 3 then some ⟨(⟨#[109, 97, 99, 104, 105, 110, 101]⟩ : ByteArray), true, 1, 1, 1, zeroI, false⟩
  else if k = 4 then some ⟨(⟨#[108, 105, 110, 107]⟩ : ByteArray), false, 2, 2, 1, zeroI, false⟩
  else if k = 5 then some ⟨(⟨#[103, 114, 111, 117, 112]⟩ : ByteArray), true, 1, 16, 3, zeroI, false⟩
  else if k = 6 then some ⟨(⟨#[112, 111, 111, 108]⟩ : ByteArray), true, 1, 16, 4, zeroI, false⟩
  else if k = 7 then some ⟨(⟨#[106, 111, 98]⟩ : ByteArray), true, 1, 1, 3, zeroI, false⟩
  else if k = 8 then some ⟨(⟨#[100, 97, 114, 107]⟩ : ByteArray), false, 1, 1, 2, zeroI, false⟩
  else if k = 9 then some ⟨(⟨#[102, 97, 105, 108, 117, 114, 101, 115]⟩ : ByteArray), false, 0, 0, 0, fun n => decide (1 ≤ n) && decide (n ≤ 7), false⟩
  else if k = 10 then some ⟨(⟨#[113, 117, 111, 114, 117, 109]⟩ : ByteArray), false, 1, 1, 0, zeroI, false⟩
  else if k = 11 then some ⟨(⟨#[107, 101, 101, 112]⟩ : ByteArray), false, 1, 1, 1, zeroI, true⟩
  else if k = 12 then some ⟨(⟨#[115, 112, 114, 101, 97, 100]⟩ : ByteArray), false, 1, 1, 1, fun n => decide (2 ≤ n) && decide (n ≤ 4), false⟩
  else if k = 13 then some ⟨(⟨#[111, 110, 108, 121]⟩ : ByteArray), false, 2, 17, 0, zeroI, false⟩
  else if k = 14 then some ⟨(⟨#[111, 114, 100, 101, 114]⟩ : ByteArray), false, 2, 2, 0, zeroI, false⟩
  else if k = 15 then some ⟨(⟨#[100, 105, 115, 116, 117, 114, 98]⟩ : ByteArray), false, 0, 0, 1, zeroI, false⟩
  else if k = 16 then some ⟨(⟨#[115, 105, 108, 101, 110, 99, 101]⟩ : ByteArray), false, 1, 1, 1, zeroI, false⟩
  else none
def kindName (k : Int) : ByteArray := match form? k with | some f => f.word | none => ⟨#[]⟩
def fits (f : Form) (d : Decl) : Bool :=
  (f.name == decide (d.name ≠ ⟨#[]⟩)) && decide (f.least ≤ d.refs.length) && decide (d.refs.length ≤ f.most) && decide (d.nums.length = f.numbers) && f.by_ d.by_ && (f.always || !d.always)
def shaped (d : Decl) : Bool := match form? d.kind with | some f => fits f d | none => false
def numOk (n : Int) : Bool := decide (0 ≤ n) && decide (n ≤ 1048576)
def validD (d : Decl) : Bool := shaped d && (decide (d.name = ⟨#[]⟩) || isName d.name) && d.refs.all isName && d.nums.all numOk

theorem nameI_false {c : Int} (h : nameI c = false) : letterI c = false ∧ digitI c = false ∧ (c != 95) = true := by
  simp [nameI] at h; obtain ⟨⟨a, b⟩, d⟩ := h; exact ⟨a, b, by simpa using d⟩
theorem nameI_true {c : Int} (h : nameI c = true) : letterI c = true ∨ (letterI c = false ∧ digitI c = true) ∨ (letterI c = false ∧ digitI c = false ∧ (c != 95) = false) := by
  cases h1 : letterI c <;> cases h2 : digitI c <;> simp_all [nameI]
theorem getD_zero (s : ByteArray) (h : 0 < s.size) : s.data.toList.getD 0 0 = s[0] := by
  rw [List.getD_eq_getElem?_getD, List.getElem?_eq_getElem (by simpa using h)]; rfl
theorem all_iff (s : ByteArray) (p : UInt8 → Bool) : s.data.toList.all p = true ↔ ∀ j (h : j < s.size), p s[j] = true := by
  rw [List.all_eq_true]
  constructor
  · intro h j hj
    exact h _ (by have : s[j] = s.data.toList[j]'(by simpa using hj) := rfl
                  rw [this]; exact List.getElem_mem _)
  · intro h x hx
    obtain ⟨j, hj, rfl⟩ := List.getElem_of_mem hx
    exact h j (by simpa using hj)
theorem isName_true {s : ByteArray} (h1 : 1 ≤ s.size) (h2 : s.size ≤ 31) (h3 : letterI s[0].toNat = true) (h4 : hasS keywords s = false)
    (h5 : ∀ j (h : j < s.size), nameI s[j].toNat = true) : isName s = true := by
  unfold isName
  rw [getD_zero s h1, h3, h4, (all_iff s (fun c => nameI c.toNat)).2 h5]
  simp [h1, h2]
theorem isName_first {s : ByteArray} (h1 : 1 ≤ s.size) (h3 : letterI s[0].toNat = false) : isName s = false := by
  unfold isName
  rw [getD_zero s h1, h3]
  simp
theorem isName_key {s : ByteArray} (h : hasS keywords s = true) : isName s = false := by
  unfold isName
  rw [h]; simp
theorem isName_at {s : ByteArray} {j : Nat} (h : j < s.size) (hj : nameI s[j].toNat = false) : isName s = false := by
  unfold isName
  have : s.data.toList.all (fun c => nameI c.toNat) = false := by
    rw [Bool.eq_false_iff, Ne, all_iff s (fun c => nameI c.toNat)]
    intro h'; rw [h' j h] at hj; cases hj
  rw [this]; simp
theorem isName_short {s : ByteArray} (h : s.size < 1) : isName s = false := by simp [isName]; omega
theorem isName_long {s : ByteArray} (h : 31 < s.size) : isName s = false := by simp [isName]; omega
end Go.Proofs.YtpggamapmgpjcaaGreatDoor

namespace Go.Proofs.YtpggamapmgpjcaaGreatDoor
open Go Go.RowKit Go.Proofs

/-- a closure with captured values lb answers p on every element, and only adds memory -/
def PredS (g : Nat) (lb : Array Value) (l : List ByteArray) (p : ByteArray → Bool) (w : World) : Prop :=
  ∀ (k : Nat) (hk : k < l.length) (W : World), Below w.heap.size w W → Calls Tryz.prog g (#[.string l[k]] ++ lb) W fun e w' => e = .returned (.bool (p l[k])) ∧ Below W.heap.size W w'
def PredI (g : Nat) (lb : Array Value) (l : List Int) (p : Int → Bool) (w : World) : Prop :=
  ∀ (k : Nat) (hk : k < l.length) (W : World), Below w.heap.size w W → Calls Tryz.prog g (#[.int .i64 l[k]] ++ lb) W fun e w' => e = .returned (.bool (p l[k])) ∧ Below W.heap.size W w'

end Go.Proofs.YtpggamapmgpjcaaGreatDoor
