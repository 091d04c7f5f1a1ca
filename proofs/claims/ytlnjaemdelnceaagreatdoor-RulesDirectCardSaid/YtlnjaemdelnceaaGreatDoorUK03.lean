/- A part of the claim: see its last text. -/
import Derived.Test.YtlnjaemdelnceaaGreatDoorUK02
import Derived.Test.YtlnjaemdelnceaaGreatDoorUK01
import Derived.Test.YtlnjaemdelnceaaGreatDoorProg
import Derived.Deep.RegionHeld3
import Derived.BigQuiet
import Derived.Deep.QuietTactic

set_option maxRecDepth 100000
set_option maxHeartbeats 16000000
namespace Go.Proofs.YtlnjaemdelnceaaGreatDoor
open Go Go.RowKit Go.Proofs
/-! Slices of elements of k cells; R tells how an element's cells read -/
structure RelK (α : Type) where
 R : World → Nat → α → List Value → Prop
 keep : ∀ {w w' : World} {B : Nat} {x : α} {vs : List Value}, R w B x vs → (∀ p : Addr, p.block < B → w'.cell? p = w.cell? p) → R w' B x vs
 more : ∀ {w : World} {B B' : Nat} {x : α} {vs : List Value}, R w B x vs → B ≤ B' → R w B' x vs
def Rows {α : Type} (E : RelK α) (k : Nat) (w : World) (B : Nat) (A : Option Addr) (l : List α) : Prop :=
 ∀ (i : Nat) (hi : i < l.length), ∃ (b off : Nat) (vs : List Value), A = some ⟨b, off, none⟩ ∧ b < B ∧ vs.length = k ∧ E.R w B l[i] vs ∧ ∀ (j : Nat) (u : Value), vs[j]? = some u → w.cell? ⟨b, off + i * k + j, none⟩ = some u
section
variable {α : Type} {E : RelK α} {k : Nat} {w w' : World} {B B' : Nat} {A : Option Addr} {l : List α}
theorem Rows.nil_ : Rows E k w B A ([] : List α) := fun i hi => absurd hi (by simp)
theorem Rows.keep (h : Rows E k w B A l) (hk : ∀ p : Addr, p.block < B → w'.cell? p = w.cell? p) : Rows E k w' B A l := fun i hi => by
 obtain ⟨b, off, vs, e, hb, hl, hR, hc⟩ := h i hi
 exact ⟨b, off, vs, e, hb, hl, E.keep hR hk, fun j u hu => (hk _ hb).trans (hc j u hu)⟩
theorem Rows.more (h : Rows E k w B A l) (hB : B ≤ B') : Rows E k w B' A l := fun i hi => by
 obtain ⟨b, off, vs, e, hb, hl, hR, hc⟩ := h i hi
 exact ⟨b, off, vs, e, by omega, hl, E.more hR hB, hc⟩
theorem Rows.below (h : Rows E k w B A l) (hb : Below B w w') : Rows E k w' B A l := h.keep fun _ hp => hb.cell hp
theorem Rows.grow (h : Rows E k w w.heap.size A l) (hb : Below w.heap.size w w') : Rows E k w' w'.heap.size A l := (h.below hb).more hb.size
theorem Rows.take_ (h : Rows E k w B A l) (n : Nat) : Rows E k w B A (l.take n) := fun i hi => by
 have hi' : i < l.length := by simp at hi; omega
 have := h i hi'
 simpa using this
end
def encRack : RelK RackM := ⟨fun _ _ x vs => vs = [.string x.name, .int .i64 x.site, .int .i64 x.feed] ∧ x.name.size ≤ 9223372036854775807, fun h _ => h, fun h _ => h⟩
def encMach : RelK MachM := ⟨fun _ _ x vs => vs = [.string x.name, .int .i64 x.rack, .int .i64 x.cap] ∧ x.name.size ≤ 9223372036854775807, fun h _ => h, fun h _ => h⟩
def encLink : RelK LinkM := ⟨fun _ _ x vs => vs = [.int .i64 x.a, .int .i64 x.b, .int .i64 x.cap], fun h _ => h, fun h _ => h⟩
def encItem : RelK ItemM := ⟨fun w B x vs => ∃ A c, vs = [.string x.name, .int .i64 x.kind, .int .i64 x.count, .int .i64 x.load, .int .i64 x.size, .int .i64 x.share, .slice A x.on.length c] ∧ x.name.size ≤ 9223372036854775807 ∧ x.on.length ≤ c ∧ c ≤ 9223372036854775807 ∧ Ints w B A x.on,
 fun ⟨A, c, h1, h2, h3, h5, h4⟩ hk => ⟨A, c, h1, h2, h3, h5, h4.keep hk⟩, fun ⟨A, c, h1, h2, h3, h5, h4⟩ hB => ⟨A, c, h1, h2, h3, h5, h4.more hB⟩⟩
def encRule : RelK RuleM := ⟨fun w B x vs => ∃ A c, vs = [.int .i64 x.kind, .int .i64 x.item, .int .i64 x.other, .int .i64 x.n, .int .i64 x.by_, .bool x.always, .slice A x.machines.length c] ∧ x.machines.length ≤ c ∧ c ≤ 9223372036854775807 ∧ Ints w B A x.machines,
 fun ⟨A, c, h1, h2, h5, h4⟩ hk => ⟨A, c, h1, h2, h5, h4.keep hk⟩, fun ⟨A, c, h1, h2, h5, h4⟩ hB => ⟨A, c, h1, h2, h5, h4.more hB⟩⟩
structure MH where
 s : Option Addr
 sc : Nat
 f : Option Addr
 fc : Nat
 r : Option Addr
 rc : Nat
 m : Option Addr
 mc : Nat
 l : Option Addr
 lc : Nat
 i : Option Addr
 ic : Nat
 u : Option Addr
 uc : Nat
structure MD (w : World) (B : Nat) (h : MH) (m : Mod) : Prop where
 dS : Strs w B h.s m.sT
 dF : Strs w B h.f m.fT
 dR : Rows encRack 3 w B h.r m.rT
 dM : Rows encMach 3 w B h.m m.mT
 dL : Rows encLink 3 w B h.l m.lT
 dI : Rows encItem 7 w B h.i m.iT
 dU : Rows encRule 7 w B h.u m.uT
 sl : m.sT.length ≤ 9223372036854775807
 fl : m.fT.length ≤ 9223372036854775807
 rl : m.rT.length ≤ 9223372036854775807
 ml : m.mT.length ≤ 9223372036854775807
 ll : m.lT.length ≤ 9223372036854775807
 il : m.iT.length ≤ 9223372036854775807
 ul : m.uT.length ≤ 9223372036854775807
 sf : ∀ s ∈ m.sT, s.size ≤ 9223372036854775807
 ff : ∀ s ∈ m.fT, s.size ≤ 9223372036854775807
section
variable {w w' : World} {B B' : Nat} {h : MH} {m : Mod}
theorem MD.keep (d : MD w B h m) (hk : ∀ p : Addr, p.block < B → w'.cell? p = w.cell? p) : MD w' B h m :=
 ⟨d.dS.keep hk, d.dF.keep hk, d.dR.keep hk, d.dM.keep hk, d.dL.keep hk, d.dI.keep hk, d.dU.keep hk, d.sl, d.fl, d.rl, d.ml, d.ll, d.il, d.ul, d.sf, d.ff⟩
theorem MD.more (d : MD w B h m) (hB : B ≤ B') : MD w B' h m :=
 ⟨d.dS.more hB, d.dF.more hB, d.dR.more hB, d.dM.more hB, d.dL.more hB, d.dI.more hB, d.dU.more hB, d.sl, d.fl, d.rl, d.ml, d.ll, d.il, d.ul, d.sf, d.ff⟩
theorem MD.below (d : MD w B h m) (hb : Below B w w') : MD w' B h m := d.keep fun _ hp => hb.cell hp
theorem MD.grow (d : MD w w.heap.size h m) (hb : Below w.heap.size w w') : MD w' w'.heap.size h m := (d.below hb).more hb.size
theorem Strs.grow {A : Option Addr} {l : List ByteArray} (h : Strs w w.heap.size A l) (hb : Below w.heap.size w w') : Strs w' w'.heap.size A l := (h.below hb).more hb.size
theorem Ints.grow {A : Option Addr} {l : List Int} (h : Ints w w.heap.size A l) (hb : Below w.heap.size w w') : Ints w' w'.heap.size A l := (h.below hb).more hb.size
theorem Rows.mach {A : Option Addr} {l : List MachM} (h : Rows encMach 3 w B A l) {i : Nat} (hi : i < l.length) : ∃ b off, A = some ⟨b, off, none⟩ ∧ b < B ∧ w.cell? ⟨b, off + i * 3, none⟩ = some (.string l[i].name) ∧ w.cell? ⟨b, off + i * 3 + 1, none⟩ = some (.int .i64 l[i].rack) ∧ w.cell? ⟨b, off + i * 3 + 2, none⟩ = some (.int .i64 l[i].cap) ∧ l[i].name.size ≤ 9223372036854775807 := by
 obtain ⟨b, off, vs, e, hb, _, ⟨rfl, hz⟩, hc⟩ := h i hi
 exact ⟨b, off, e, hb, hc 0 _ rfl, hc 1 _ rfl, hc 2 _ rfl, hz⟩
theorem Rows.rack {A : Option Addr} {l : List RackM} (h : Rows encRack 3 w B A l) {i : Nat} (hi : i < l.length) : ∃ b off, A = some ⟨b, off, none⟩ ∧ b < B ∧ w.cell? ⟨b, off + i * 3, none⟩ = some (.string l[i].name) ∧ w.cell? ⟨b, off + i * 3 + 1, none⟩ = some (.int .i64 l[i].site) ∧ w.cell? ⟨b, off + i * 3 + 2, none⟩ = some (.int .i64 l[i].feed) ∧ l[i].name.size ≤ 9223372036854775807 := by
 obtain ⟨b, off, vs, e, hb, _, ⟨rfl, hz⟩, hc⟩ := h i hi
 exact ⟨b, off, e, hb, hc 0 _ rfl, hc 1 _ rfl, hc 2 _ rfl, hz⟩
theorem Rows.link {A : Option Addr} {l : List LinkM} (h : Rows encLink 3 w B A l) {i : Nat} (hi : i < l.length) : ∃ b off, A = some ⟨b, off, none⟩ ∧ b < B ∧ w.cell? ⟨b, off + i * 3, none⟩ = some (.int .i64 l[i].a) ∧ w.cell? ⟨b, off + i * 3 + 1, none⟩ = some (.int .i64 l[i].b) ∧ w.cell? ⟨b, off + i * 3 + 2, none⟩ = some (.int .i64 l[i].cap) := by
 obtain ⟨b, off, vs, e, hb, _, rfl, hc⟩ := h i hi
 exact ⟨b, off, e, hb, hc 0 _ rfl, hc 1 _ rfl, hc 2 _ rfl⟩
theorem Rows.item {A : Option Addr} {l : List ItemM} (h : Rows encItem 7 w B A l) {i : Nat} (hi : i < l.length) : ∃ b off A2 c2, A = some ⟨b, off, none⟩ ∧ b < B ∧ w.cell? ⟨b, off + i * 7, none⟩ = some (.string l[i].name) ∧ w.cell? ⟨b, off + i * 7 + 1, none⟩ = some (.int .i64 l[i].kind) ∧ w.cell? ⟨b, off + i * 7 + 2, none⟩ = some (.int .i64 l[i].count) ∧
    w.cell? ⟨b, off + i * 7 + 3, none⟩ = some (.int .i64 l[i].load) ∧ w.cell? ⟨b, off + i * 7 + 4, none⟩ = some (.int .i64 l[i].size) ∧ w.cell? ⟨b, off + i * 7 + 5, none⟩ = some (.int .i64 l[i].share) ∧ w.cell? ⟨b, off + i * 7 + 6, none⟩ = some (.slice A2 l[i].on.length c2) ∧
    l[i].name.size ≤ 9223372036854775807 ∧ l[i].on.length ≤ c2 ∧ c2 ≤ 9223372036854775807 ∧ Ints w B A2 l[i].on := by
 obtain ⟨b, off, vs, e, hb, _, ⟨A2, c2, rfl, h1, h2, h4, h3⟩, hc⟩ := h i hi
 exact ⟨b, off, A2, c2, e, hb, hc 0 _ rfl, hc 1 _ rfl, hc 2 _ rfl, hc 3 _ rfl, hc 4 _ rfl, hc 5 _ rfl, hc 6 _ rfl, h1, h2, h4, h3⟩
theorem Rows.rule {A : Option Addr} {l : List RuleM} (h : Rows encRule 7 w B A l) {i : Nat} (hi : i < l.length) : ∃ b off A2 c2, A = some ⟨b, off, none⟩ ∧ b < B ∧ w.cell? ⟨b, off + i * 7, none⟩ = some (.int .i64 l[i].kind) ∧ w.cell? ⟨b, off + i * 7 + 1, none⟩ = some (.int .i64 l[i].item) ∧ w.cell? ⟨b, off + i * 7 + 2, none⟩ = some (.int .i64 l[i].other) ∧
    w.cell? ⟨b, off + i * 7 + 3, none⟩ = some (.int .i64 l[i].n) ∧ w.cell? ⟨b, off + i * 7 + 4, none⟩ = some (.int .i64 l[i].by_) ∧ w.cell? ⟨b, off + i * 7 + 5, none⟩ = some (.bool l[i].always) ∧ w.cell? ⟨b, off + i * 7 + 6, none⟩ = some (.slice A2 l[i].machines.length c2) ∧
    l[i].machines.length ≤ c2 ∧ c2 ≤ 9223372036854775807 ∧ Ints w B A2 l[i].machines := by
 obtain ⟨b, off, vs, e, hb, _, ⟨A2, c2, rfl, h2, h4, h3⟩, hc⟩ := h i hi
 exact ⟨b, off, A2, c2, e, hb, hc 0 _ rfl, hc 1 _ rfl, hc 2 _ rfl, hc 3 _ rfl, hc 4 _ rfl, hc 5 _ rfl, hc 6 _ rfl, h2, h4, h3⟩
theorem int_at {A : Option Addr} {l : List Int} (h : Ints w B A l) {k : Nat} (hk : k < l.length) : ∃ b off, A = some ⟨b, off, none⟩ ∧ b < B ∧ w.cell? ⟨b, off + k, none⟩ = some (.int .i64 l[k]) := by
 obtain ⟨b, off, e, hb, hc⟩ := Ints.form h (by intro e; subst e; simp at hk)
 exact ⟨b, off, e, hb, by rw [hc k hk]; simp [hk]⟩
theorem str_at {A : Option Addr} {l : List ByteArray} (h : Strs w B A l) {k : Nat} (hk : k < l.length) : ∃ b off, A = some ⟨b, off, none⟩ ∧ b < B ∧ w.cell? ⟨b, off + k, none⟩ = some (.string l[k]) := by
 obtain ⟨b, off, e, hb, hc⟩ := Strs.form h (by intro e; subst e; simp at hk)
 exact ⟨b, off, e, hb, by rw [hc k hk]; simp [hk]⟩
end
structure MW (w : World) (bm : Nat) (wr : World) (h : MH) (m : Mod) : Prop where
 b : Below w.heap.size w wr
 blk : Blk wr bm 29 #[.slice h.s m.sT.length h.sc, .slice h.f m.fT.length h.fc, .slice h.r m.rT.length h.rc, .slice h.m m.mT.length h.mc, .slice h.l m.lT.length h.lc, .slice h.i m.iT.length h.ic, .int .i64 m.dT, .int .i64 m.oT, .int .i64 m.vT, .int .i64 m.aT, .slice h.u m.uT.length h.uc]
section
variable {w wr w2 : World} {bm : Nat} {h : MH} {m : Mod}
theorem MW.start (w : World) (h : MH) (m : Mod) : MW w w.heap.size (w.alloc (.cells #[.slice h.s m.sT.length h.sc, .slice h.f m.fT.length h.fc, .slice h.r m.rT.length h.rc, .slice h.m m.mT.length h.mc, .slice h.l m.lT.length h.lc, .slice h.i m.iT.length h.ic, .int .i64 m.dT, .int .i64 m.oT, .int .i64 m.vT, .int .i64 m.aT, .slice h.u m.uT.length h.uc] 29)) h m := ⟨(Below.refl _ _).alloc (Nat.le_refl _) _, Blk.new _ _ _⟩
theorem MW.lt (d : MW w bm wr h m) : bm < wr.heap.size := Blk.lt d.blk
theorem MW.grow (d : MW w bm wr h m) (hb : Below wr.heap.size wr w2) : MW w bm w2 h m := ⟨d.b.trans (hb.mono d.b.size), d.blk.below hb d.lt⟩
theorem MW.drewN (d : MW w bm wr h m) (n : Nat) : MW w bm (wr.drewN n) h m := by
 induction n with
 | zero => exact d
 | succ n ih => exact ⟨ih.b.drew, ih.blk⟩
theorem MW.md (d : MW w bm wr h m) (hd : MD w w.heap.size h m) : MD wr wr.heap.size h m := hd.grow d.b
theorem MB.cells (d : Blk wr bm 29 #[.slice h.s m.sT.length h.sc, .slice h.f m.fT.length h.fc, .slice h.r m.rT.length h.rc, .slice h.m m.mT.length h.mc, .slice h.l m.lT.length h.lc, .slice h.i m.iT.length h.ic, .int .i64 m.dT, .int .i64 m.oT, .int .i64 m.vT, .int .i64 m.aT, .slice h.u m.uT.length h.uc]) :
    wr.cell? ⟨bm, 0, none⟩ = some (.slice h.s m.sT.length h.sc) ∧ wr.cell? ⟨bm, 1, none⟩ = some (.slice h.f m.fT.length h.fc) ∧ wr.cell? ⟨bm, 2, none⟩ = some (.slice h.r m.rT.length h.rc) ∧ wr.cell? ⟨bm, 3, none⟩ = some (.slice h.m m.mT.length h.mc) ∧
    wr.cell? ⟨bm, 4, none⟩ = some (.slice h.l m.lT.length h.lc) ∧ wr.cell? ⟨bm, 5, none⟩ = some (.slice h.i m.iT.length h.ic) ∧ wr.cell? ⟨bm, 6, none⟩ = some (.int .i64 m.dT) ∧ wr.cell? ⟨bm, 7, none⟩ = some (.int .i64 m.oT) ∧
    wr.cell? ⟨bm, 8, none⟩ = some (.int .i64 m.vT) ∧ wr.cell? ⟨bm, 9, none⟩ = some (.int .i64 m.aT) ∧ wr.cell? ⟨bm, 10, none⟩ = some (.slice h.u m.uT.length h.uc) :=
 ⟨d.cell 0, d.cell 1, d.cell 2, d.cell 3, d.cell 4, d.cell 5, d.cell 6, d.cell 7, d.cell 8, d.cell 9, d.cell 10⟩
end
end Go.Proofs.YtlnjaemdelnceaaGreatDoor

namespace Go.Proofs.YtlnjaemdelnceaaGreatDoor
open Go Go.RowKit
theorem has_any (A : Option Addr) (c : Nat) (l : List ByteArray) (s : ByteArray) (w : World) (hl : l.length ≤ 9223372036854775807) (h : Strs w w.heap.size A l) :
    Calls Tryz.prog 119 #[.slice A l.length c, .string s] w fun e w' => e = .returned (.bool (hasS l s)) ∧ w = w' := by
 go_enter Tryz.func119, Tryz.ntmps119
 go_wp2
 go_loop [5] (fun i => ∃ k : Nat, k ≤ l.length ∧ i = .int .i64 k ∧ ∀ j (hj : j < l.length), j < k → l[j] ≠ s) (fun i => l.length - (intOf i).toNat)
 case atStart => exact ⟨0, Nat.zero_le _, rfl, fun j hj h0 => absurd h0 (by omega)⟩
 case round =>
  obtain ⟨k, hk, rfl, hs⟩ := hrel
  have HS := hide hs; clear hs
  by_cases hlt : k < l.length
  · obtain ⟨ad, rfl, hb, hc⟩ := h.at_ hlt
    by_cases he : l[k] = s
    · have hq := toList_beq_true he
      have hm : hasS l s = true := by rw [hasS_iff, ← he]; exact List.getElem_mem _
      have HE := hide he; clear he
      have HM := hide hm; clear hm
      go_wp2
      go_ret
      exact ⟨ret_congr (by rw [HM.out]; rfl), rfl⟩
    · have hq := toList_beq_false he
      have HE := hide he; clear he
      go_wp2
      go_round
      case rel => exact ⟨k + 1, by omega, by go_num, fun j hj h1 => by
       rcases Nat.lt_or_ge j k with h2 | h2
       · exact HS j hj h2
       · obtain rfl : j = k := by omega
         exact HE⟩
      case measure => simp [intOf]; omega
  · have hm : hasS l s = false := by
      rw [Bool.eq_false_iff, Ne, hasS_iff]
      intro hm; obtain ⟨j, hj, e⟩ := List.getElem_of_mem hm; exact HS j hj (by omega) e
    have HM := hide hm; clear hm
    go_wp2
    go_ret
    exact ⟨ret_congr (by rw [HM.out]; rfl), rfl⟩
theorem letter_any (c : Int) (w : World) : Calls Tryz.prog 179 #[.int .u8 c] w fun e w' => e = .returned (.bool (letterI c)) ∧ w = w' := by
 by_cases h1 : 97 ≤ c <;> by_cases h2 : c ≤ 122
 all_goals
  have hL : letterI c = (decide (97 ≤ c) && decide (c ≤ 122)) := rfl
  have HL := hide hL; clear hL
  go_enter Tryz.func179, Tryz.ntmps179
  go_wp2
  go_ret
  exact ⟨ret_congr (by rw [HL.out]; simp [*]), rfl⟩
theorem digit_any (c : Int) (w : World) : Calls Tryz.prog 181 #[.int .u8 c] w fun e w' => e = .returned (.bool (digitI c)) ∧ w = w' := by
 by_cases h1 : 48 ≤ c <;> by_cases h2 : c ≤ 57
 all_goals
  have hL : digitI c = (decide (48 ≤ c) && decide (c ≤ 57)) := rfl
  have HL := hide hL; clear hL
  go_enter Tryz.func181, Tryz.ntmps181
  go_wp2
  go_ret
  exact ⟨ret_congr (by rw [HL.out]; simp [*]), rfl⟩
theorem keywords_any (w : World) : Calls Tryz.prog 180 #[] w fun e w' => ∃ A, e = .returned (.slice A keywords.length keywords.length) ∧ Strs w' w'.heap.size A keywords ∧ Below w.heap.size w w' := by
 go_enter Tryz.func180, Tryz.ntmps180
 go_wp2
 go_ret
 exact ⟨some ⟨w.heap.size, 0, none⟩, rfl, (Strs.newRow w 9 keywords).more (by simp), (Below.refl _ _).alloc (Nat.le_refl _) _⟩
theorem isName_ref (s : ByteArray) (w : World) (hs : s.size ≤ 9223372036854775807) :
    Calls Tryz.prog 118 #[.string s] w fun e w' => e = .returned (.bool (isName s)) ∧ Below w.heap.size w w' := by
 by_cases h1 : s.size < 1
 · have HN := hide (isName_short h1)
   go_enter Tryz.func118, Tryz.ntmps118
   go_wp2
   go_ret
   exact ⟨ret_congr (by rw [HN.out]; rfl), Below.refl _ _⟩
 by_cases h2 : 31 < s.size
 · have HN := hide (isName_long h2)
   go_enter Tryz.func118, Tryz.ntmps118
   go_wp2
   go_ret
   exact ⟨ret_congr (by rw [HN.out]; rfl), Below.refl _ _⟩
 cases h3 : letterI s[0].toNat
 · have HN := hide (isName_first (by omega) h3)
   go_enter Tryz.func118, Tryz.ntmps118
   go_wp2_with (go_at_call 179; refine (letter_any _ _).mono ?_; rintro e w' ⟨rfl, rfl⟩)
   go_ret
   exact ⟨ret_congr (by rw [HN.out]; rfl), Below.refl _ _⟩
 cases hb : hasS keywords s
 rotate_left
 · have HN := hide (isName_key hb)
   have HB := hide hb
   go_enter Tryz.func118, Tryz.ntmps118
   go_wp2_with (first
    | (go_at_call 179; refine (letter_any _ _).mono ?_; rintro e w' ⟨rfl, rfl⟩)
    | (go_at_call 180; refine (keywords_any _).mono ?_; rintro e w1 ⟨A, rfl, hA, hw1⟩)
    | (go_at_call 119; refine (has_any A _ keywords s _ (by decide) hA).mono ?_; rintro e w' ⟨rfl, rfl⟩))
   go_ret
   exact ⟨ret_congr (by rw [HN.out]; rfl), hw1⟩
 · go_enter Tryz.func118, Tryz.ntmps118
   go_wp2_with (first
    | (go_at_call 179; refine (letter_any _ _).mono ?_; rintro e w' ⟨rfl, rfl⟩)
    | (go_at_call 180; refine (keywords_any _).mono ?_; rintro e w1 ⟨A, rfl, hA, hw1⟩)
    | (go_at_call 119; refine (has_any A _ keywords s _ (by decide) hA).mono ?_; rintro e w' ⟨rfl, rfl⟩))
   have HW := hide hw1; clear hw1
   have H3 := hide h3; clear h3
   have HB := hide hb; clear hb
   clear hA
   go_loop [3] (fun i => ∃ k : Nat, k ≤ s.size ∧ i = .int .i64 k ∧ ∀ j (hj : j < s.size), j < k → nameI s[j].toNat = true) (fun i => s.size - (intOf i).toNat)
   case atStart => exact ⟨0, Nat.zero_le _, rfl, fun j hj h0 => absurd h0 (by omega)⟩
   case round =>
    obtain ⟨k, hk, rfl, hn⟩ := hrel
    have HN := hide hn; clear hn
    by_cases hlt : k < s.size
    · cases hx : nameI s[k].toNat
      · obtain ⟨e1, e2, e3⟩ := nameI_false hx
        have HX := hide hx; clear hx
        go_wp2_with (first
         | (go_at_call 179; refine (letter_any _ _).mono ?_; rintro e w' ⟨rfl, rfl⟩)
         | (go_at_call 181; refine (digit_any _ _).mono ?_; rintro e w' ⟨rfl, rfl⟩))
        go_ret
        exact ⟨ret_congr (by rw [isName_at hlt HX]; rfl), HW.out⟩
      · rcases nameI_true hx with e1 | ⟨e1, e2⟩ | ⟨e1, e2, e3⟩
        all_goals
         have HX := hide hx; clear hx
         go_wp2_with (first
          | (go_at_call 179; refine (letter_any _ _).mono ?_; rintro e w' ⟨rfl, rfl⟩)
          | (go_at_call 181; refine (digit_any _ _).mono ?_; rintro e w' ⟨rfl, rfl⟩))
         go_round
         case rel => exact ⟨k + 1, by omega, by go_num, fun j hj h1 => by
          rcases Nat.lt_or_ge j k with h2 | h2
          · exact HN j hj h2
          · obtain rfl : j = k := by omega
            exact HX⟩
         case measure => simp [intOf]; omega
    · go_wp2
      go_ret
      exact ⟨ret_congr (by rw [isName_true (by omega) (by omega) H3.out HB.out (fun j hj => HN.out j hj (by omega))]; rfl), HW.out⟩
end Go.Proofs.YtlnjaemdelnceaaGreatDoor
namespace Go.Proofs.YtlnjaemdelnceaaGreatDoor
open Go Go.RowKit Go.Proofs
theorem exists_ref (n l : Int) (w : World) : Calls Tryz.prog 51 #[.int .i64 n, .int .i64 l] w fun e w' => e = .returned (.bool (exI n l)) ∧ w = w' := by
 by_cases h1 : 1 ≤ n <;> by_cases h2 : n ≤ l
 all_goals
  have hL : exI n l = (decide (1 ≤ n) && decide (n ≤ l)) := rfl
  have HL := hide hL; clear hL
  go_enter Tryz.func51, Tryz.ntmps51
  go_wp2
  go_ret
  exact ⟨ret_congr (by rw [HL.out]; simp [*]), rfl⟩
theorem number_ref (n : Int) (w : World) : Calls Tryz.prog 114 #[.int .i64 n] w fun e w' => e = .returned (.bool (wiI n 0 1048576)) ∧ w = w' := by
 by_cases h1 : 0 ≤ n <;> by_cases h2 : n ≤ 1048576
 all_goals
  have hL : wiI n 0 1048576 = (decide (0 ≤ n) && decide (n ≤ 1048576)) := rfl
  have HL := hide hL; clear hL
  go_enter Tryz.func114, Tryz.ntmps114
  go_wp2
  go_ret
  exact ⟨ret_congr (by rw [HL.out]; simp [*]), rfl⟩
theorem within_ref (n a b : Int) (w : World) : Calls Tryz.prog 90 #[.int .i64 n, .int .i64 a, .int .i64 b] w fun e w' => e = .returned (.bool (wiI n a b)) ∧ w = w' := by
 by_cases h1 : a ≤ n <;> by_cases h2 : n ≤ b
 all_goals
  have hL : wiI n a b = (decide (a ≤ n) && decide (n ≤ b)) := rfl
  have HL := hide hL; clear hL
  go_enter Tryz.func90, Tryz.ntmps90
  go_wp2
  go_ret
  exact ⟨ret_congr (by rw [HL.out]; simp [*]), rfl⟩
theorem hasInt_ref (A : Option Addr) (c : Nat) (l : List Int) (s : Int) (w : World) (hl : l.length ≤ 9223372036854775807) (h : Ints w w.heap.size A l) :
    Calls Tryz.prog 26 #[.slice A l.length c, .int .i64 s] w fun e w' => e = .returned (.bool (decide (s ∈ l))) ∧ w = w' := by
 go_enter Tryz.func26, Tryz.ntmps26
 go_wp2
 go_loop [5] (fun i => ∃ k : Nat, k ≤ l.length ∧ i = .int .i64 k ∧ ∀ j (hj : j < l.length), j < k → l[j] ≠ s) (fun i => l.length - (intOf i).toNat)
 case atStart => exact ⟨0, Nat.zero_le _, rfl, fun j hj h0 => absurd h0 (by omega)⟩
 case round =>
  obtain ⟨k, hk, rfl, hs⟩ := hrel
  have HS := hide hs; clear hs
  by_cases hlt : k < l.length
  · obtain ⟨b, off, rfl, hb, hc⟩ := int_at h hlt
    by_cases he : l[k] = s
    · have hq : (l[k] == s) = true := by simpa using he
      have hm : decide (s ∈ l) = true := by rw [decide_eq_true_iff, ← he]; exact List.getElem_mem _
      have HM := hide hm; clear hm he
      go_wp2
      go_ret
      exact ⟨ret_congr (by rw [HM.out]; rfl), rfl⟩
    · have hq : (l[k] == s) = false := by simpa using he
      have HE := hide he; clear he
      go_wp2
      go_round
      case rel => exact ⟨k + 1, by omega, by go_num, fun j hj h1 => by
       rcases Nat.lt_or_ge j k with h2 | h2
       · exact HS j hj h2
       · obtain rfl : j = k := by omega
         exact HE⟩
      case measure => simp [intOf]; omega
  · have hm : decide (s ∈ l) = false := by
      rw [decide_eq_false_iff_not]
      intro hm; obtain ⟨j, hj, e⟩ := List.getElem_of_mem hm; exact HS j hj (by omega) e
    have HM := hide hm; clear hm
    go_wp2
    go_ret
    exact ⟨ret_congr (by rw [HM.out]; rfl), rfl⟩
theorem quiet_left {P : Program} {f : FuncId} {args : Array Value} {w : World} {n : Nat} {v : Value}
    (h : Calls P f args (w.drewN n) fun e w' => e = .returned v ∧ w.drewN n = w') : Calls P f args (w.drewN n) fun e w'' => e = .returned v ∧ ∃ m, w'' = w.drewN m :=
 h.mono fun _ _ ⟨he, hm⟩ => ⟨he, n, hm.symm⟩
end Go.Proofs.YtlnjaemdelnceaaGreatDoor
