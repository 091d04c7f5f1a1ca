/- A part of the claim: see its last text. -/
import Derived.Below
import Derived.Laws.OwnMore
import Derived.Deep.AppendLies
import Derived.Deep.Draws
import Derived.Laws.Rows
import Derived.Maps.AppendAt
import Derived.RegionTactic
import Derived.OwnWalk
import Derived.WalkKit
import Derived.WalkSpells
import Derived.WalkLawsBesides
import Derived.Test.YtcfogipaadhbeaaGreatDoorProg
import Derived.Test.YtcfogipaadhbeaaGreatDoorShelf
import Derived.Laws.RangeString
import Derived.Laws.RangeAny
import Derived.Shelf.Strings.FuncGrows

set_option maxRecDepth 100000
set_option maxHeartbeats 16000000
namespace Go.Proofs.YtcfogipaadhbeaaGreatDoor
open Go Go.RowKit
theorem block_of_add (a : Addr) (n : Nat) : (a.add n).block = a.block := by unfold Addr.add; split <;> rfl
theorem add_of_add (a : Addr) (i j : Nat) : (a.add i).add j = a.add (i + j) := by
 unfold Addr.add
 by_cases hi : i = 0 <;> by_cases hj : j = 0 <;> simp [hi, hj, Nat.add_assoc]
def Reads (w : World) (B size : Nat) (A : Option Addr) (n : Nat) (xs : List Value) : Prop :=
 xs.length = n * size ∧ (0 < n → ∃ ad, A = some ad ∧ ad.block < B ∧ ∀ j u, xs[j]? = some u → w.cell? (ad.add j) = some u)
section
variable {w w' : World} {B B' size n : Nat} {A : Option Addr} {xs : List Value}
theorem Reads.none_ : Reads w B size A 0 [] := ⟨by simp, fun h => absurd h (by omega)⟩
theorem Reads.at_ {k : Nat} (h : Reads w B 1 A n xs) (hk : k < n) : ∃ ad u, A = some ad ∧ ad.block < B ∧ xs[k]? = some u ∧ w.cell? (ad.add k) = some u := by
 obtain ⟨ad, e, hb, hc⟩ := h.2 (by omega)
 have hl : k < xs.length := by have := h.1; omega
 exact ⟨ad, xs[k], e, hb, List.getElem?_eq_getElem hl, hc k _ (List.getElem?_eq_getElem hl)⟩
theorem Reads.keep (h : Reads w B size A n xs) (hk : ∀ p : Addr, p.block < B → w'.cell? p = w.cell? p) : Reads w' B size A n xs :=
 ⟨h.1, fun hn => by
   obtain ⟨ad, e, hb, hc⟩ := h.2 hn
   exact ⟨ad, e, hb, fun j u hu => (hk _ (by rw [block_of_add]; exact hb)).trans (hc j u hu)⟩⟩
theorem Reads.more (h : Reads w B size A n xs) (hB : B ≤ B') : Reads w B' size A n xs :=
 ⟨h.1, fun hn => by
   obtain ⟨ad, e, hb, hc⟩ := h.2 hn
   exact ⟨ad, e, by omega, hc⟩⟩
theorem Reads.below (h : Reads w B size A n xs) (hb : Below B w w') : Reads w' B size A n xs := h.keep fun _ hp => hb.cell hp
theorem Reads.drew (h : Reads w B size A n xs) : Reads w.drew B size A n xs := h
theorem Reads.drewN (h : Reads w B size A n xs) (k : Nat) : Reads (w.drewN k) B size A n xs := h
theorem Reads.alloc (h : Reads w B size A n xs) (hB : B ≤ w.heap.size) (o : Obj) : Reads (w.alloc o) B size A n xs := h.keep fun p hp => World.cell?_alloc_lt w o p (by omega)
theorem Reads.setCell (h : Reads w B size A n xs) {p : Addr} (hB : B ≤ p.block) (u : Value) : Reads (w.setCell p u) B size A n xs :=
 h.keep fun q hq => World.cell?_setCell_other w p q u (fun e => by subst e; omega)
theorem Reads.grown (h : Reads w B size A n xs) {row : Option Nat} (hg : w.grownBy w' row) (hB : B ≤ w.heap.size) (hr : ∀ g, row = some g → B ≤ g) : Reads w' B size A n xs :=
 h.keep fun p hp => World.cell?_of_block (hg.block p.block (by omega) (fun e => by have := hr _ e.symm; omega))
theorem Reads.cut (h : Reads w B size A n xs) {k cap : Nat} (hk : k ≤ n) (hc : n ≤ cap) :
    Reads w B size (if cap = k then A else A.map (·.add (k * size))) (n - k) (xs.drop (k * size)) := by
 refine ⟨by rw [List.length_drop, h.1, Nat.sub_mul], fun hn => ?_⟩
 obtain ⟨ad, rfl, hb, hcell⟩ := h.2 (by omega)
 rw [if_neg (by omega)]
 refine ⟨ad.add (k * size), rfl, by rw [block_of_add]; exact hb, fun j u hu => ?_⟩
 rw [add_of_add]
 exact hcell _ u (by rw [← hu, List.getElem?_drop])
theorem Reads.of_own {base : Nat} {e : TypeId} {c : Nat} (h : w.ownsRow base e size (.slice A n c) n xs) : Reads w w.heap.size size A n xs := by
 refine ⟨h.1, fun hn => ?_⟩
 obtain ⟨g, cap, hv, _, hlt⟩ := h.form hn
 have hA : A = some ⟨g, 0, none⟩ := by injection hv
 subst hA
 exact ⟨_, rfl, hlt, h.cells (g := g) rfl⟩
end
def Strs (w : World) (B : Nat) (A : Option Addr) (l : List ByteArray) : Prop := Reads w B 1 A l.length (l.map .string)
def Ints (w : World) (B : Nat) (A : Option Addr) (l : List Int) : Prop := Reads w B 1 A l.length (l.map (.int .i64))
section
variable {w w' : World} {B B' : Nat} {A : Option Addr}
theorem Strs.at_ {l : List ByteArray} (h : Strs w B A l) {k : Nat} (hk : k < l.length) : ∃ ad, A = some ad ∧ ad.block < B ∧ w.cell? (ad.add k) = some (.string l[k]) := by
 obtain ⟨ad, u, e, hb, hx, hc⟩ := Reads.at_ h hk
 simp [hk] at hx
 subst hx
 exact ⟨ad, e, hb, hc⟩
theorem Ints.at_ {l : List Int} (h : Ints w B A l) {k : Nat} (hk : k < l.length) : ∃ ad, A = some ad ∧ ad.block < B ∧ w.cell? (ad.add k) = some (.int .i64 l[k]) := by
 obtain ⟨ad, u, e, hb, hx, hc⟩ := Reads.at_ h hk
 simp [hk] at hx
 subst hx
 exact ⟨ad, e, hb, hc⟩
theorem Strs.below {l : List ByteArray} (h : Strs w B A l) (hb : Below B w w') : Strs w' B A l := Reads.below h hb
theorem Ints.below {l : List Int} (h : Ints w B A l) (hb : Below B w w') : Ints w' B A l := Reads.below h hb
theorem Strs.keep {l : List ByteArray} (h : Strs w B A l) (hk : ∀ p : Addr, p.block < B → w'.cell? p = w.cell? p) : Strs w' B A l := Reads.keep h hk
theorem Ints.keep {l : List Int} (h : Ints w B A l) (hk : ∀ p : Addr, p.block < B → w'.cell? p = w.cell? p) : Ints w' B A l := Reads.keep h hk
theorem Strs.more {l : List ByteArray} (h : Strs w B A l) (hB : B ≤ B') : Strs w B' A l := Reads.more h hB
theorem Ints.more {l : List Int} (h : Ints w B A l) (hB : B ≤ B') : Ints w B' A l := Reads.more h hB
end
theorem cell?_new (w : World) (cs : Array Value) (t : TypeId) (i : Nat) : (w.alloc (.cells cs t)).cell? ⟨w.heap.size, i, none⟩ = cs[i]? :=
 cell_of_row _ w.heap.size i cs t (0, 0) (heap_alloc_new w _)
theorem Reads.newRow (w : World) (cs : Array Value) (t : TypeId) (n size : Nat) (h : cs.size = n * size) :
    Reads (w.alloc (.cells cs t)) (w.heap.size + 1) size (some ⟨w.heap.size, 0, none⟩) n cs.toList :=
 ⟨by simpa using h, fun _ => ⟨_, rfl, by simp, fun j u hu => by
   have e : (⟨w.heap.size, 0, none⟩ : Addr).add j = ⟨w.heap.size, j, none⟩ := by unfold Addr.add; split <;> simp_all
   rw [e, cell?_new]; simpa using hu⟩⟩
theorem Strs.newRow (w : World) (t : TypeId) (l : List ByteArray) :
    Strs (w.alloc (.cells (l.map Value.string).toArray t)) (w.heap.size + 1) (some ⟨w.heap.size, 0, none⟩) l := by
 have := Reads.newRow w (l.map Value.string).toArray t l.length 1 (by simp)
 simpa [Strs] using this
theorem bcell {W W1 : World} {B : Nat} (hb : Below B W W1) : (∀ b o, b < B → W1.cell? ⟨b, o, none⟩ = W.cell? ⟨b, o, none⟩) ∧ (∀ b o, b < B → W1.frozen? ⟨b, o, none⟩ = W.frozen? ⟨b, o, none⟩) :=
 ⟨fun b o h => hb.cell (p := ⟨b, o, none⟩) h, fun b o h => hb.frozen (p := ⟨b, o, none⟩) h⟩
theorem hide {p : Prop} (h : p) : Hid p := h
def Blk (w : World) (g : Nat) (t : TypeId) (cs : Array Value) : Prop := w.heap[g]? = some (.cells cs t (0, 0))
section
variable {w w' : World} {g : Nat} {t : TypeId} {cs : Array Value}
theorem Blk.lt (h : Blk w g t cs) : g < w.heap.size := by
 rcases Nat.lt_or_ge g w.heap.size with hlt | hge
 · exact hlt
 · unfold Blk at h; rw [Array.getElem?_eq_none hge] at h; cases h
theorem Blk.cell (h : Blk w g t cs) (i : Nat) : w.cell? ⟨g, i, none⟩ = cs[i]? := cell_of_row w g i cs t (0, 0) h
theorem Blk.frozen (h : Blk w g t cs) (i : Nat) : w.frozen? ⟨g, i, none⟩ = false := by
 unfold Blk at h
 simp [World.frozen?, h]
theorem Blk.new (w : World) (t : TypeId) (cs : Array Value) : Blk (w.alloc (.cells cs t)) w.heap.size t cs := heap_alloc_new w _
theorem Blk.drew (h : Blk w g t cs) : Blk w.drew g t cs := h
theorem Blk.drewN (h : Blk w g t cs) (n : Nat) : Blk (w.drewN n) g t cs := h
theorem Blk.alloc (h : Blk w g t cs) (o : Obj) : Blk (w.alloc o) g t cs := (Below.heap_alloc w o g h.lt).trans h
theorem Blk.set_ (h : Blk w g t cs) (i : Nat) (u : Value) : Blk (w.setCell ⟨g, i, none⟩ u) g t (cs.setIfInBounds i u) := by
 unfold Blk at h ⊢
 simp [World.setCell, Array.getElem?_modify, h]
theorem Blk.far (h : Blk w g t cs) {p : Addr} (hp : g ≠ p.block) (u : Value) : Blk (w.setCell p u) g t cs := (Below.heap_setCell w p u g hp).trans h
theorem Blk.below {B : Nat} (h : Blk w g t cs) (hb : Below B w w') (hg : g < B) : Blk w' g t cs := (hb.block g hg).trans h
theorem Blk.grown {row : Option Nat} (h : Blk w g t cs) (hb : w.grownBy w' row) (hg : some g ≠ row) : Blk w' g t cs := (hb.block g h.lt hg).trans h
end
theorem add_none (b off j : Nat) : (⟨b, off, none⟩ : Addr).add j = ⟨b, off + j, none⟩ := by unfold Addr.add; split <;> simp_all
theorem Reads.form {w : World} {B size n : Nat} {A : Option Addr} {xs : List Value} (h : Reads w B size A n xs) (hn : 0 < xs.length) :
    ∃ b off, A = some ⟨b, off, none⟩ ∧ b < B ∧ ∀ j u, xs[j]? = some u → w.cell? ⟨b, off + j, none⟩ = some u := by
 obtain ⟨⟨b, off, spot⟩, rfl, hb, hc⟩ := h.2 (by have := h.1; rcases Nat.eq_zero_or_pos n with h0 | h0; (rw [h0] at this; omega); exact h0)
 have h0 := hc 0 xs[0] (by simp [hn])
 have hs : spot = none := by simpa [Addr.add] using World.cell?_spot h0
 subst hs
 exact ⟨b, off, rfl, hb, fun j u hu => by rw [← add_none]; exact hc j u hu⟩
theorem Strs.form {w : World} {B : Nat} {A : Option Addr} {l : List ByteArray} (h : Strs w B A l) (hn : l ≠ []) :
    ∃ b off, A = some ⟨b, off, none⟩ ∧ b < B ∧ ∀ j, j < l.length → w.cell? ⟨b, off + j, none⟩ = some (.string (l.getD j ByteArray.empty)) := by
 obtain ⟨b, off, e, hb, hc⟩ := Reads.form h (by simpa using List.length_pos_iff.2 hn)
 exact ⟨b, off, e, hb, fun j hj => hc j _ (by simp [hj])⟩
theorem Ints.form {w : World} {B : Nat} {A : Option Addr} {l : List Int} (h : Ints w B A l) (hn : l ≠ []) :
    ∃ b off, A = some ⟨b, off, none⟩ ∧ b < B ∧ ∀ j, j < l.length → w.cell? ⟨b, off + j, none⟩ = some (.int .i64 (l.getD j 0)) := by
 obtain ⟨b, off, e, hb, hc⟩ := Reads.form h (by simpa using List.length_pos_iff.2 hn)
 exact ⟨b, off, e, hb, fun j hj => hc j _ (by simp [hj])⟩
theorem ret_congr {a b : Value} (h : a = b) : Ending.returned a = .returned b := by rw [h]
theorem below_drawn {B : Nat} {w w' : World} (h : Below B w w') (n : Nat) : Below B w (w'.drewN n) := by
 induction n with
 | zero => exact h
 | succ n ih => exact ih.drew
end Go.Proofs.YtcfogipaadhbeaaGreatDoor

namespace Go.Proofs.YtcfogipaadhbeaaGreatDoor
open Go
theorem toList_beq (a b : ByteArray) : (a.toList == b.toList) = decide (a = b) := by
 rw [ByteArray.toList_eq, ByteArray.toList_eq, Bool.eq_iff_iff]
 simp [ByteArray.ext_iff]
theorem toList_beq_true {a b : ByteArray} (h : a = b) : (a.toList == b.toList) = true := by rw [toList_beq]; simpa
theorem toList_beq_false {a b : ByteArray} (h : ¬ a = b) : (a.toList == b.toList) = false := by rw [toList_beq]; simpa
def S (l : List UInt8) : ByteArray := ⟨l.toArray⟩
structure Decl where
 kind : Int
 name : ByteArray
 refs : List ByteArray
 nums : List Int
 by_ : Int
 always : Bool
def letterI (c : Int) : Bool := decide (97 ≤ c) && decide (c ≤ 122)
def digitI (c : Int) : Bool := decide (48 ≤ c) && decide (c ≤ 57)
def nameI (c : Int) : Bool := letterI c || digitI c || decide (c = 95)
def keywords : List ByteArray := [(⟨#[97, 108, 119, 97, 121, 115]⟩ : ByteArray), (⟨#[98, 101, 102, 111, 114, 101]⟩ : ByteArray), (⟨#[98, 121]⟩ : ByteArray), (⟨#[99, 97, 112, 97, 99, 105, 116, 121]⟩ : ByteArray), (⟨#[100, 97, 114, 107]⟩ : ByteArray), (⟨#[100, 105, 115, 116, 117, 114, 98]⟩ : ByteArray), (⟨#[102, 97, 105, 108, 117, 114, 101, 115]⟩ : ByteArray), (⟨#[102, 101, 101, 100]⟩ : ByteArray), (⟨#[103, 114, 111, 117, 112]⟩ : ByteArray), (⟨#[105, 110]⟩ : ByteArray), (⟨#[106, 111, 98]⟩ : ByteArray), (⟨#[107, 101, 101, 112]⟩ : ByteArray), (⟨#[108, 105, 110, 107]⟩ : ByteArray), (⟨#[108, 111, 97, 100]⟩ : ByteArray), (⟨#[109, 97, 99, 104, 105, 110, 101]⟩ : ByteArray), (⟨#[111, 110]⟩ : ByteArray), (⟨#[111, 110, 108, 121]⟩ : ByteArray), (⟨#[111, 114, 100, 101, 114]⟩ : ByteArray), (⟨#[112, 111, 111, 108]⟩ : ByteArray), (⟨#[113, 117, 111, 114, 117, 109]⟩ : ByteArray), (⟨#[114, 97, 99, 107]⟩ : ByteArray), (⟨#[114, 101, 115, 101, 114, 118, 101]⟩ : ByteArray), (⟨#[115, 104, 97, 114, 101]⟩ : ByteArray), (⟨#[115, 105, 108, 101, 110, 99, 101]⟩ : ByteArray), (⟨#[115, 105, 116, 101]⟩ : ByteArray), (⟨#[115, 105, 122, 101]⟩ : ByteArray), (⟨#[115, 108, 111, 116, 115]⟩ : ByteArray), (⟨#[115, 112, 114, 101, 97, 100]⟩ : ByteArray)]
def hasS (l : List ByteArray) (s : ByteArray) : Bool := l.any (fun x => decide (x = s))
theorem hasS_iff {l : List ByteArray} {s : ByteArray} : hasS l s = true ↔ s ∈ l := by simp [hasS]
def isName (s : ByteArray) : Bool :=
 decide (1 ≤ s.size) && decide (s.size ≤ 31) && letterI (s.data.toList.getD 0 0).toNat && !hasS keywords s && s.data.toList.all (fun c => nameI c.toNat)
structure Form where
 word : ByteArray
 name : Bool
 least : Nat
 most : Nat
 numbers : Nat
 by_ : Int → Bool
 always : Bool
def zeroI (n : Int) : Bool := decide (n = 0)
def form? (k : Int) : Option Form :=
 if k = 0 then some ⟨(⟨#[115, 105, 116, 101]⟩ : ByteArray), true, 0, 0, 0, zeroI, false⟩
 else if k = 1 then some ⟨(⟨#[102, 101, 101, 100]⟩ : ByteArray), true, 0, 0, 0, zeroI, false⟩
 else if k = 2 then some ⟨(⟨#[114, 97, 99, 107]⟩ : ByteArray), true, 2, 2, 0, zeroI, false⟩
 else if k = 3 then some ⟨(⟨#[109, 97, 99, 104, 105, 110, 101]⟩ : ByteArray), true, 1, 1, 1, zeroI, false⟩
 else if k = 4 then some ⟨(⟨#[108, 105, 110, 107]⟩ : ByteArray), false, 2, 2, 1, zeroI, false⟩
 else if k = 5 then some ⟨(⟨#[103, 114, 111, 117, 112]⟩ : ByteArray), true, 1, 16, 3, zeroI, false⟩
 else if k = 6 then some ⟨(⟨#[112, 111, 111, 108]⟩ : ByteArray), true, 1, 16, 4, zeroI, false⟩
 else if k = 7 then some ⟨(⟨#[106, 111, 98]⟩ : ByteArray), true, 1, 1, 3, zeroI, false⟩
 else if k = 8 then some ⟨(⟨#[100, 97, 114, 107]⟩ : ByteArray), false, 1, 1, 2, zeroI, false⟩
 else if k = 9 then some ⟨(⟨#[102, 97, 105, 108, 117, 114, 101, 115]⟩ : ByteArray), false, 0, 0, 0, fun n => decide (1 ≤ n) && decide (n ≤ 7), false⟩
 else if k = 10 then some ⟨(⟨#[113, 117, 111, 114, 117, 109]⟩ : ByteArray), false, 1, 1, 0, zeroI, false⟩
 else if k = 11 then some ⟨(⟨#[107, 101, 101, 112]⟩ : ByteArray), false, 1, 1, 1, zeroI, true⟩
 else if k = 12 then some ⟨(⟨#[115, 112, 114, 101, 97, 100]⟩ : ByteArray), false, 1, 1, 1, fun n => decide (2 ≤ n) && decide (n ≤ 4), false⟩
 else if k = 13 then some ⟨(⟨#[111, 110, 108, 121]⟩ : ByteArray), false, 2, 17, 0, zeroI, false⟩
 else if k = 14 then some ⟨(⟨#[111, 114, 100, 101, 114]⟩ : ByteArray), false, 2, 2, 0, zeroI, false⟩
 else if k = 15 then some ⟨(⟨#[100, 105, 115, 116, 117, 114, 98]⟩ : ByteArray), false, 0, 0, 1, zeroI, false⟩
 else if k = 16 then some ⟨(⟨#[115, 105, 108, 101, 110, 99, 101]⟩ : ByteArray), false, 1, 1, 1, zeroI, false⟩
 else none
def fits (f : Form) (d : Decl) : Bool :=
 (f.name == decide (d.name ≠ ⟨#[]⟩)) && decide (f.least ≤ d.refs.length) && decide (d.refs.length ≤ f.most) && decide (d.nums.length = f.numbers) && f.by_ d.by_ && (f.always || !d.always)
def shaped (d : Decl) : Bool := match form? d.kind with | some f => fits f d | none => false
def numOk (n : Int) : Bool := decide (0 ≤ n) && decide (n ≤ 1048576)
def validD (d : Decl) : Bool := shaped d && (decide (d.name = ⟨#[]⟩) || isName d.name) && d.refs.all isName && d.nums.all numOk
theorem nameI_false {c : Int} (h : nameI c = false) : letterI c = false ∧ digitI c = false ∧ (c != 95) = true := by
 simp [nameI] at h; obtain ⟨⟨a, b⟩, d⟩ := h; exact ⟨a, b, by simpa using d⟩
theorem nameI_true {c : Int} (h : nameI c = true) : letterI c = true ∨ (letterI c = false ∧ digitI c = true) ∨ (letterI c = false ∧ digitI c = false ∧ (c != 95) = false) := by
 cases h1 : letterI c <;> cases h2 : digitI c <;> simp_all [nameI]
theorem getD_zero (s : ByteArray) (h : 0 < s.size) : s.data.toList.getD 0 0 = s[0] := by
 rw [List.getD_eq_getElem?_getD, List.getElem?_eq_getElem (by simpa using h)]; rfl
theorem all_iff (s : ByteArray) (p : UInt8 → Bool) : s.data.toList.all p = true ↔ ∀ j (h : j < s.size), p s[j] = true := by
 rw [List.all_eq_true]
 constructor
 · intro h j hj
   exact h _ (by have : s[j] = s.data.toList[j]'(by simpa using hj) := rfl
                 rw [this]; exact List.getElem_mem _)
 · intro h x hx
   obtain ⟨j, hj, rfl⟩ := List.getElem_of_mem hx
   exact h j (by simpa using hj)
theorem isName_true {s : ByteArray} (h1 : 1 ≤ s.size) (h2 : s.size ≤ 31) (h3 : letterI s[0].toNat = true) (h4 : hasS keywords s = false)
    (h5 : ∀ j (h : j < s.size), nameI s[j].toNat = true) : isName s = true := by
 unfold isName
 rw [getD_zero s h1, h3, h4, (all_iff s (fun c => nameI c.toNat)).2 h5]
 simp [h1, h2]
theorem isName_first {s : ByteArray} (h1 : 1 ≤ s.size) (h3 : letterI s[0].toNat = false) : isName s = false := by
 unfold isName
 rw [getD_zero s h1, h3]
 simp
theorem isName_key {s : ByteArray} (h : hasS keywords s = true) : isName s = false := by
 unfold isName
 rw [h]; simp
theorem isName_at {s : ByteArray} {j : Nat} (h : j < s.size) (hj : nameI s[j].toNat = false) : isName s = false := by
 unfold isName
 have : s.data.toList.all (fun c => nameI c.toNat) = false := by
  rw [Bool.eq_false_iff, Ne, all_iff s (fun c => nameI c.toNat)]
  intro h'; rw [h' j h] at hj; cases hj
 rw [this]; simp
theorem isName_short {s : ByteArray} (h : s.size < 1) : isName s = false := by simp [isName]; omega
theorem isName_long {s : ByteArray} (h : 31 < s.size) : isName s = false := by simp [isName]; omega
end Go.Proofs.YtcfogipaadhbeaaGreatDoor

namespace Go.Proofs.YtcfogipaadhbeaaGreatDoor
open Go Go.RowKit
section
variable {P : Program} (w : World)
theorem run_append_of_nil (base : Nat) (t ty e : TypeId) (i : TypeInfo) (size : Nat) (ht : P.underlying t = some (.slice e)) (hi : P.info? e = some i)
    (v : Value) (n : Nat) (xs : List Value) (hown : w.ownsRow base e size v n xs) (c : Nat) : (Builtin.append_ #[t, t] ty #[v, .slice none 0 c]).run P w = .ok v w := by
 rcases hown.2 with ⟨rfl, rfl⟩ | ⟨g, cap, cur, rfl, _, _, hnc, _⟩
 · simp [Builtin.append_, run_underlying ht, sizeOf, typeInfo, hi, Builtin.lenOf, Builtin.firstCells]
 · simp [Builtin.append_, run_underlying ht, sizeOf, typeInfo, hi, Builtin.lenOf, Builtin.firstCells, hnc, storeCells]
theorem run_append_any (base : Nat) (t ty e : TypeId) (i : TypeInfo) (z : Value) (size bytes : Nat) (ht : P.underlying t = some (.slice e)) (hi : P.info? e = some i) (hz : i.zero = some z)
    (hsize : i.size = size) (hby : i.bytes = bytes) (hzs : z.cells.size = size) (hsz : 0 < size)
    (v : Value) (n : Nat) (xs : List Value) (hown : w.ownsRow base e size v n xs)
    (B : Nat) (A : Option Addr) (m c : Nat) (news : List Value) (hr : Reads w B size A m news) (h1 : ∀ u ∈ news, u.oneCell' = true)
    (h63 : n + m ≤ maxLen) (hbytes : (n + m) * bytes ≤ 140737488355328) (hbase : base ≤ w.heap.size) :
    ∃ v' w', (Builtin.append_ #[t, t] ty #[v, .slice A m c]).run P w = .ok v' w' ∧ w'.ownsRow base e size v' (n + m) (xs ++ news) ∧ w.grownBy w' v.ownBlock ∧
     (v'.ownBlock = v.ownBlock ∨ v'.ownBlock = some w.heap.size) := by
 rcases A with _ | ad
 · have hm : m = 0 := by
     rcases Nat.eq_zero_or_pos m with h0 | h0
     · exact h0
     · obtain ⟨ad, h, _⟩ := hr.2 h0
       cases h
   subst hm
   have hn : news = [] := List.eq_nil_of_length_eq_zero (by simpa using hr.1)
   subst hn
   exact ⟨v, w, run_append_of_nil w base t ty e i size ht hi v n xs hown c, by simpa using hown, World.grownBy.refl w _, .inl rfl⟩
 · have hcells : ∀ j u, news[j]? = some u → w.cell? (ad.add j) = some u := by
     intro j u hu
     rcases Nat.eq_zero_or_pos m with h0 | h0
     · subst h0
       have hn : news = [] := List.eq_nil_of_length_eq_zero (by simpa using hr.1)
       subst hn
       simp at hu
     · obtain ⟨ad', h, _, hc⟩ := hr.2 h0
       injection h with h
       subst h
       exact hc j u hu
   obtain ⟨v', w', hrun, h2, h3, _, h5⟩ := run_append_own_at (P := P) w base t ty e i z size bytes ht hi hz hsize hby hzs hsz v n xs hown ad m c news hr.1 hcells h1 h63 hbytes hbase
   exact ⟨v', w', hrun, h2, h3, h5⟩
theorem wp_append_any {o : Oper} {a : Act} {K : Act → World → Prop} {Q : Exit → Act → World → Prop} (s x : Operand) (t : TypeId)
    (ho : o.op = .call { callee := .builtin .append, args := #[s, x], argTypes := #[t, t] })
    (base : Nat) (e : TypeId) (i : TypeInfo) (z : Value) (size bytes : Nat) (ht : P.underlying t = some (.slice e)) (hi : P.info? e = some i) (hz : i.zero = some z)
    (hsize : i.size = size) (hby : i.bytes = bytes) (hzs : z.cells.size = size) (hsz : 0 < size)
    (v : Value) (n : Nat) (xs : List Value) (hs : a.eval s = v) (hown : w.ownsRow base e size v n xs)
    (B : Nat) (A : Option Addr) (m c : Nat) (news : List Value) (hx : a.eval x = .slice A m c) (hr : Reads w B size A m news) (h1 : ∀ u ∈ news, u.oneCell' = true)
    (h63 : n + m ≤ maxLen) (hbytes : (n + m) * bytes ≤ 140737488355328) (hbase : base ≤ w.heap.size)
    (h : ∀ v' w', w'.ownsRow base e size v' (n + m) (xs ++ news) → w.grownBy w' v.ownBlock → (v'.ownBlock = v.ownBlock ∨ v'.ownBlock = some w.heap.size) → K (a.put o.dst v') w') : o.wp P a w K Q := by
 obtain ⟨v', w', hrun, h2, h3, h4⟩ := run_append_any (P := P) w base t o.type e i z size bytes ht hi hz hsize hby hzs hsz v n xs hown B A m c news hr h1 h63 hbytes hbase
 unfold Oper.wp execOp
 simp only [ho, resolve, invoke, builtin, Sem.run_bind, Sem.run_pure, Result.andThen_ok, List.map_toArray, List.map_cons, List.map_nil, hs, hx, hrun]
 exact h v' w' h2 h3 h4
end
def OwnS (B : Nat) (w : World) (v : Value) (l : List ByteArray) : Prop := w.ownsRow B 9 1 v l.length (l.map .string)
theorem infoS : (Tryz.prog.info? 9).map (fun i => (i.zero, i.size, i.bytes)) = some (some (.string ⟨#[]⟩), 1, 16) := by kernel_rfl
theorem OwnS.nil_ (B : Nat) (w : World) : OwnS B w (.slice none 0 0) [] := World.ownsRow_nil _ _ _ _
theorem OwnS.new {B : Nat} (w : World) (l : List ByteArray) (hB : B ≤ w.heap.size) (hl : l.length ≤ maxLen) : OwnS B (w.alloc (.cells (l.map Value.string).toArray 9)) (.slice (some ⟨w.heap.size, 0, none⟩) l.length l.length) l := by
 have := World.ownsRow_lit (e := 9) (size := 1) w (l.map Value.string).toArray l.length hB hl (by simp)
 simpa [OwnS] using this
theorem OwnS.kept {B : Nat} {w w' : World} {v : Value} {l : List ByteArray} (h : OwnS B w v l) {row : Option Nat} (hg : w.grownBy w' row) (hne : v.ownBlock = none ∨ v.ownBlock ≠ row) : OwnS B w' v l := World.ownsRow.kept h hg hne
theorem grown_of_below {w w' : World} (h : Below w.heap.size w w') (row : Option Nat) : w.grownBy w' row := ⟨h.os, h.tape, h.output, h.size, fun i hi _ => h.block i hi⟩
theorem OwnS.below {B : Nat} {w w' : World} {v : Value} {l : List ByteArray} (h : OwnS B w v l) (hb : Below w.heap.size w w') : OwnS B w' v l := by
 refine h.kept (grown_of_below hb none) ?_
 cases hv : v.ownBlock
 · exact .inl rfl
 · exact .inr (by simp)
theorem OwnS.alloc {B : Nat} {w : World} {v : Value} {l : List ByteArray} (h : OwnS B w v l) (o : Obj) : OwnS B (w.alloc o) v l := World.ownsRow.alloc h o
theorem OwnS.drew {B : Nat} {w : World} {v : Value} {l : List ByteArray} (h : OwnS B w v l) : OwnS B w.drew v l := h
theorem OwnS.form {B : Nat} {w : World} {v : Value} {l : List ByteArray} (h : OwnS B w v l) : ∃ A c, v = .slice A l.length c ∧ Strs w w.heap.size A l := by
 have h2 := h
 rcases h2.2 with ⟨rfl, h0⟩ | ⟨g, cap, cur, rfl, _⟩
 · have : l = [] := List.eq_nil_of_length_eq_zero h0
   subst this
   exact ⟨none, 0, rfl, Reads.none_⟩
 · exact ⟨_, _, rfl, Reads.of_own h⟩
theorem OwnS.lt {B : Nat} {w : World} {v : Value} {l : List ByteArray} (h : OwnS B w v l) : ∀ k, v.ownBlock = some k → B ≤ k ∧ k < w.heap.size := World.ownsRow.lt h
theorem Below.ofGrown {B : Nat} {a w w' : World} {v : Value} (hb : Below B a w) (hg : w.grownBy w' v.ownBlock) (hB : B ≤ w.heap.size) (hv : ∀ k, v.ownBlock = some k → B ≤ k) : Below B a w' :=
 hb.grown hg hB hv
theorem append_strs {ops : Array Oper} {rest : List Oper} {o : Oper} {a : Act} {Q : Exit → Act → World → Prop} {w : World} (hgd : o.guard = none) (s x : Operand)
    (ho : o.op = .call { callee := .builtin .append, args := #[s, x], argTypes := #[25, 25] })
    (base : Nat) (v : Value) (l : List ByteArray) (hs : a.eval s = v) (hown : OwnS base w v l)
    (B : Nat) (A : Option Addr) (c : Nat) (m : List ByteArray) (hx : a.eval x = .slice A m.length c) (hr : Strs w B A m)
    (hlen : l.length + m.length ≤ 1099511627776) (hbase : base ≤ w.heap.size)
    (h : ∀ v' w', OwnS base w' v' (l ++ m) → w.grownBy w' v.ownBlock → (v'.ownBlock = v.ownBlock ∨ v'.ownBlock = some w.heap.size) → wpList Tryz.prog ops Q rest (a.put o.dst v') w') : wpList Tryz.prog ops Q (o :: rest) a w := by
 obtain ⟨i0, hi, hz0, hz1, hz2⟩ := info_parts infoS
 refine wpList_plain hgd fun _ hK => wp_append_any w s x 25 ho base 9 i0 _ 1 16 Tryz.underlying25 hi hz0 hz1 hz2 rfl (by omega) v l.length (l.map .string) hs hown B A m.length c (m.map .string) hx hr ?_ ?_ ?_ hbase
  fun v' w' h2 h3 h4 => hK _ _ (h v' w' ?_ h3 h4)
 · intro u hu
   obtain ⟨y, _, rfl⟩ := List.mem_map.1 hu
   rfl
 · unfold maxLen; omega
 · omega
 · unfold OwnS; rw [List.map_append, List.length_append]; exact h2
end Go.Proofs.YtcfogipaadhbeaaGreatDoor
namespace Go.Proofs.YtcfogipaadhbeaaGreatDoor
open Go Go.RowKit
theorem step_append_strs {ops : Array Oper} {o : Oper} {a : Act} {K : Act → World → Prop} {Q : Exit → Act → World → Prop} {E : Prop} {w : World} (hgd : o.guard = none) (s x : Operand)
    (ho : o.op = .call { callee := .builtin .append, args := #[s, x], argTypes := #[25, 25] })
    (base : Nat) (v : Value) (l : List ByteArray) (hs : a.eval s = v) (hown : OwnS base w v l)
    (B : Nat) (A : Option Addr) (c : Nat) (m : List ByteArray) (hx : a.eval x = .slice A m.length c) (hr : Strs w B A m)
    (hlen : l.length + m.length ≤ 1099511627776) (hbase : base ≤ w.heap.size)
    (h : ∀ v' w', OwnS base w' v' (l ++ m) → w.grownBy w' v.ownBlock → (v'.ownBlock = v.ownBlock ∨ v'.ownBlock = some w.heap.size) → K (a.put o.dst v') w') :
    if Region.wanted o (yielded ops a.tmps) = true then Oper.wp Tryz.prog o a w K Q else E := by
 have hw : Region.wanted o (yielded ops a.tmps) = true := by simp [Region.wanted, hgd]
 rw [if_pos hw]
 obtain ⟨i0, hi, hz0, hz1, hz2⟩ := info_parts infoS
 refine wp_append_any w s x 25 ho base 9 i0 _ 1 16 Tryz.underlying25 hi hz0 hz1 hz2 rfl (by omega) v l.length (l.map .string) hs hown B A m.length c (m.map .string) hx hr ?_ ?_ ?_ hbase
  fun v' w' h2 h3 h4 => h v' w' ?_ h3 h4
 · intro u hu
   obtain ⟨y, _, rfl⟩ := List.mem_map.1 hu
   rfl
 · unfold maxLen; omega
 · omega
 · unfold OwnS; rw [List.map_append, List.length_append]; exact h2
end Go.Proofs.YtcfogipaadhbeaaGreatDoor

namespace Go.Proofs.YtcfogipaadhbeaaGreatDoor
open Go
def firstI {α : Type} (p : α → Bool) (l : List α) : Int := match l.findIdx? p with | some k => k | none => -1
theorem firstI_at {α : Type} {p : α → Bool} {l : List α} {k : Nat} (hk : k < l.length) (h : p l[k] = true) (hb : ∀ j (hj : j < l.length), j < k → p l[j] = false) : firstI p l = k := by
 have : l.findIdx? p = some k := by
  rw [List.findIdx?_eq_some_iff_getElem]
  exact ⟨hk, h, fun j hj => by simpa using hb j (by omega) hj⟩
 rw [firstI, this]
theorem firstI_none {α : Type} {p : α → Bool} {l : List α} (hb : ∀ j (hj : j < l.length), p l[j] = false) : firstI p l = -1 := by
 have : l.findIdx? p = none := by
  rw [List.findIdx?_eq_none_iff]
  intro x hx; obtain ⟨j, hj, rfl⟩ := List.getElem_of_mem hx; exact hb j hj
 rw [firstI, this]
theorem firstI_any {α : Type} (p : α → Bool) (l : List α) : decide (0 ≤ firstI p l) = l.any p := by
 rw [firstI]
 cases h : l.findIdx? p with
 | some k =>
   have := (List.findIdx?_eq_some_iff_getElem.1 h)
   obtain ⟨hk, hp, _⟩ := this
   have ha : l.any p = true := by rw [List.any_eq_true]; exact ⟨l[k], List.getElem_mem _, hp⟩
   rw [ha]; simp
 | none =>
   rw [List.findIdx?_eq_none_iff] at h
   have ha : l.any p = false := by rw [List.any_eq_false]; intro x hx; simp [h x hx]
   rw [ha]; rfl
end Go.Proofs.YtcfogipaadhbeaaGreatDoor

namespace Go.Proofs.YtcfogipaadhbeaaGreatDoor
open Go Go.RowKit Go.Proofs
def PredS (g : Nat) (lb : Array Value) (l : List ByteArray) (p : ByteArray → Bool) (w : World) : Prop :=
 ∀ (k : Nat) (hk : k < l.length) (W : World), Below w.heap.size w W → Calls Tryz.prog g (#[.string l[k]] ++ lb) W fun e w' => e = .returned (.bool (p l[k])) ∧ Below W.heap.size W w'
def PredI (g : Nat) (lb : Array Value) (l : List Int) (p : Int → Bool) (w : World) : Prop :=
 ∀ (k : Nat) (hk : k < l.length) (W : World), Below w.heap.size w W → Calls Tryz.prog g (#[.int .i64 l[k]] ++ lb) W fun e w' => e = .returned (.bool (p l[k])) ∧ Below W.heap.size W w'
theorem indexFunc_strs (g : Nat) (lb : Array Value) (eg : ∀ args w, (callFunc g args).run Tryz.prog w = .ok (.enter g args) w) (p : ByteArray → Bool) (A : Option Addr) (c : Nat) (l : List ByteArray) (w : World)
    (hl : l.length ≤ 9223372036854775807) (h : Strs w w.heap.size A l) (hp : PredS g lb l p w) :
    Calls Tryz.prog 159 #[.slice A l.length c, .func (.func g) #[] lb] w fun e w' => e = .returned (.int .i64 (firstI p l)) ∧ Below w.heap.size w w' := by
 go_enter Tryz.func159, Tryz.ntmps159
 go_wp2_with fail
 have HP := hide hp; clear hp
 go_loopw [8] (fun i wr => ∃ k : Nat, k ≤ l.length ∧ i = .int .i64 k ∧ Below w.heap.size w wr ∧ Hid (∀ j (hj : j < l.length), j < k → p l[j] = false)) (fun i _ => l.length - (intOf i).toNat)
 case atStart => exact ⟨0, Nat.zero_le _, rfl, Below.refl _ _, fun j hj h0 => absurd h0 (by omega)⟩
 case round =>
  obtain ⟨k, hk, rfl, hbr, hs⟩ := hrel
  by_cases hlt : k < l.length
  · obtain ⟨ad, rfl, hb, hc⟩ := (h.below hbr).at_ hlt
    cases hpk : p l[k]
    · go_wp2_with (refine (HP k hlt _ hbr).mono ?_; rintro e w1 ⟨rfl, hb1⟩)
      go_roundw
      case rel => exact ⟨k + 1, by omega, by go_num, hbr.trans (hb1.mono hbr.size), fun j hj h1 => by
       rcases Nat.lt_or_ge j k with h2 | h2
       · exact hs j hj h2
       · obtain rfl : j = k := by omega
         exact hpk⟩
      case measure => simp [intOf]; omega
    · have HF := hide (firstI_at hlt hpk hs)
      go_wp2_with (refine (HP k hlt _ hbr).mono ?_; rintro e w1 ⟨rfl, hb1⟩)
      go_ret
      exact ⟨ret_congr (by rw [HF.out]; rfl), hbr.trans (hb1.mono hbr.size)⟩
  · have HF := hide (firstI_none fun j hj => hs j hj (by omega))
    go_wp2_with fail
    go_ret
    exact ⟨ret_congr (by rw [HF.out]; rfl), hbr⟩
theorem containsFunc_strs (g : Nat) (lb : Array Value) (eg : ∀ args w, (callFunc g args).run Tryz.prog w = .ok (.enter g args) w) (p : ByteArray → Bool) (A : Option Addr) (c : Nat) (l : List ByteArray) (w : World)
    (hl : l.length ≤ 9223372036854775807) (h : Strs w w.heap.size A l) (hp : PredS g lb l p w) :
    Calls Tryz.prog 98 #[.slice A l.length c, .func (.func g) #[] lb] w fun e w' => e = .returned (.bool (l.any p)) ∧ Below w.heap.size w w' := by
 have HP := hide hp; clear hp
 have HF := hide (firstI_any p l)
 go_enter Tryz.func98, Tryz.ntmps98
 go_wp2_with (go_at_call 159; refine (indexFunc_strs g lb eg p A c l w hl h HP).mono ?_; rintro e w1 ⟨rfl, hb1⟩)
 go_ret
 exact ⟨ret_congr (by rw [← HF.out]; rfl), hb1⟩
theorem indexFunc_ints (g : Nat) (lb : Array Value) (eg : ∀ args w, (callFunc g args).run Tryz.prog w = .ok (.enter g args) w) (p : Int → Bool) (A : Option Addr) (c : Nat) (l : List Int) (w : World)
    (hl : l.length ≤ 9223372036854775807) (h : Ints w w.heap.size A l) (hp : PredI g lb l p w) :
    Calls Tryz.prog 160 #[.slice A l.length c, .func (.func g) #[] lb] w fun e w' => e = .returned (.int .i64 (firstI p l)) ∧ Below w.heap.size w w' := by
 go_enter Tryz.func160, Tryz.ntmps160
 go_wp2_with fail
 have HP := hide hp; clear hp
 go_loopw [8] (fun i wr => ∃ k : Nat, k ≤ l.length ∧ i = .int .i64 k ∧ Below w.heap.size w wr ∧ Hid (∀ j (hj : j < l.length), j < k → p l[j] = false)) (fun i _ => l.length - (intOf i).toNat)
 case atStart => exact ⟨0, Nat.zero_le _, rfl, Below.refl _ _, fun j hj h0 => absurd h0 (by omega)⟩
 case round =>
  obtain ⟨k, hk, rfl, hbr, hs⟩ := hrel
  by_cases hlt : k < l.length
  · obtain ⟨ad, rfl, hb, hc⟩ := (h.below hbr).at_ hlt
    cases hpk : p l[k]
    · go_wp2_with (refine (HP k hlt _ hbr).mono ?_; rintro e w1 ⟨rfl, hb1⟩)
      go_roundw
      case rel => exact ⟨k + 1, by omega, by go_num, hbr.trans (hb1.mono hbr.size), fun j hj h1 => by
       rcases Nat.lt_or_ge j k with h2 | h2
       · exact hs j hj h2
       · obtain rfl : j = k := by omega
         exact hpk⟩
      case measure => simp [intOf]; omega
    · have HF := hide (firstI_at hlt hpk hs)
      go_wp2_with (refine (HP k hlt _ hbr).mono ?_; rintro e w1 ⟨rfl, hb1⟩)
      go_ret
      exact ⟨ret_congr (by rw [HF.out]; rfl), hbr.trans (hb1.mono hbr.size)⟩
  · have HF := hide (firstI_none fun j hj => hs j hj (by omega))
    go_wp2_with fail
    go_ret
    exact ⟨ret_congr (by rw [HF.out]; rfl), hbr⟩
theorem containsFunc_ints (g : Nat) (lb : Array Value) (eg : ∀ args w, (callFunc g args).run Tryz.prog w = .ok (.enter g args) w) (p : Int → Bool) (A : Option Addr) (c : Nat) (l : List Int) (w : World)
    (hl : l.length ≤ 9223372036854775807) (h : Ints w w.heap.size A l) (hp : PredI g lb l p w) :
    Calls Tryz.prog 100 #[.slice A l.length c, .func (.func g) #[] lb] w fun e w' => e = .returned (.bool (l.any p)) ∧ Below w.heap.size w w' := by
 have HP := hide hp; clear hp
 have HF := hide (firstI_any p l)
 go_enter Tryz.func100, Tryz.ntmps100
 go_wp2_with (go_at_call 160; refine (indexFunc_ints g lb eg p A c l w hl h HP).mono ?_; rintro e w1 ⟨rfl, hb1⟩)
 go_ret
 exact ⟨ret_congr (by rw [← HF.out]; rfl), hb1⟩
end Go.Proofs.YtcfogipaadhbeaaGreatDoor
