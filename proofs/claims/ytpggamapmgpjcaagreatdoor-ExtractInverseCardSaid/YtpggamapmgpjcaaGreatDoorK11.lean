/- The walks of exoduslaw14.Example and exoduslaw15.Example: the model of the chapter. Conditions: none. -/
import Derived.Test.YtpggamapmgpjcaaGreatDoorOpens14Z
import Derived.Test.YtpggamapmgpjcaaGreatDoorK10
import Derived.Laws.ResultCell
import Derived.Laws.Rows
import Derived.Laws.CopyOwn
import Derived.WalkKit

namespace Go.Proofs.YtpggamapmgpjcaaGreatDoor
open Go Go.RowKit Go.Proofs

/-- the site part of the example -/
def m14 : Mod := ⟨[(⟨#[97]⟩ : ByteArray), (⟨#[98]⟩ : ByteArray)], [(⟨#[102]⟩ : ByteArray)], [⟨(⟨#[114]⟩ : ByteArray), 1, 1⟩], [⟨(⟨#[109, 49]⟩ : ByteArray), 1, 10⟩, ⟨(⟨#[109, 50]⟩ : ByteArray), 1, 5⟩], [⟨1, 2, 3⟩], [], 0, 0, 0, 0, []⟩
/-- with its item -/
def m15 : Mod := ⟨m14.sites, m14.feeds, m14.racks, m14.machs, m14.links, [⟨(⟨#[100, 98]⟩ : ByteArray), 0, 1, 4, 2, 1, [2]⟩], 1, 1, 0, 0, []⟩
def r22 : RuleM := ⟨0, 1, 0, 0, 0, false, []⟩
/-- the model of chapter 22 -/
def m22 : Mod := ⟨m15.sites, m15.feeds, m15.racks, m15.machs, m15.links, m15.items, 1, 1, 0, 1, [r22]⟩
theorem Reads.ofBlk2 {w : World} {B g n size : Nat} {t : TypeId} {cs : Array Value} (h : Blk w g t cs) (hB : g < B) (hn : cs.size = n * size) : Reads w B size (some ⟨g, 0, none⟩) n cs.toList :=
  ⟨by simpa using hn, fun _ => ⟨_, rfl, hB, fun j u hu => by
    rw [add_none, Nat.zero_add, h.cell j]; simpa using hu⟩⟩
theorem rows_one {α : Type} {E : RelK α} {k : Nat} {w : World} {B g : Nat} {t : TypeId} {cs : Array Value} {x : α} (h : Blk w g t cs) (hB : g < B) (hk : cs.size = k) (hE : E.R w B x cs.toList) : Rows E k w B (some ⟨g, 0, none⟩) [x] := by
  intro i hi
  obtain rfl : i = 0 := by simp at hi; omega
  exact ⟨g, 0, cs.toList, rfl, hB, by simpa using hk, hE, fun j u hu => by simp only [Nat.zero_mul, Nat.zero_add]; rw [h.cell j]; simpa using hu⟩
theorem rows_two {α : Type} {E : RelK α} {k : Nat} {w : World} {B g : Nat} {t : TypeId} {cs : Array Value} {x y : α} {vx vy : List Value} (h : Blk w g t cs) (hB : g < B) (hc : cs.toList = vx ++ vy) (hx : vx.length = k) (hy : vy.length = k) (ex : E.R w B x vx) (ey : E.R w B y vy) : Rows E k w B (some ⟨g, 0, none⟩) [x, y] := by
  intro i hi
  have hcell : ∀ j u, (vx ++ vy)[j]? = some u → w.cell? ⟨g, j, none⟩ = some u := fun j u hu => by
    rw [h.cell j, ← hu, ← hc]; simp
  have hi2 : i < 2 := hi
  rcases i with _ | _ | i
  · exact ⟨g, 0, vx, rfl, hB, hx, ex, fun j u hu => by
      have hj : j < vx.length := (List.getElem?_eq_some_iff.1 hu).1
      have := hcell j u (by rw [List.getElem?_append_left hj]; exact hu)
      simpa using this⟩
  · exact ⟨g, 0, vy, rfl, hB, hy, ey, fun j u hu => by
      have := hcell (k + j) u (by rw [List.getElem?_append_right (by omega), hx, Nat.add_sub_cancel_left]; exact hu)
      simpa using this⟩
  · omega
def cells22 (h : MH) (m : Mod) : Array Value := #[.slice h.s m.sites.length h.sc, .slice h.f m.feeds.length h.fc, .slice h.r m.racks.length h.rc, .slice h.m m.machs.length h.mc, .slice h.l m.links.length h.lc, .slice h.i m.items.length h.ic, .int .i64 m.dark, .int .i64 m.slots, .int .i64 m.reserve, .int .i64 m.failures, .slice h.u m.rules.length h.uc]
theorem cells22_one (h : MH) (m : Mod) : (cells22 h m).all (·.oneCell') = true := by simp [cells22, Value.oneCell']
def h14 (n : Nat) : MH := ⟨some ⟨n + 1, 0, none⟩, 2, some ⟨n + 1 + 1, 0, none⟩, 1, some ⟨n + 1 + 1 + 1, 0, none⟩, 1, some ⟨n + 1 + 1 + 1 + 1, 0, none⟩, 2, some ⟨n + 1 + 1 + 1 + 1 + 1, 0, none⟩, 1, none, 0, none, 0⟩
/-- the blocks of the example -/
structure S14 (n : Nat) (W : World) : Prop where
  b1 : Blk W (n + 1) 9 #[.string (⟨#[97]⟩ : ByteArray), .string (⟨#[98]⟩ : ByteArray)]
  b2 : Blk W (n + 1 + 1) 9 #[.string (⟨#[102]⟩ : ByteArray)]
  b3 : Blk W (n + 1 + 1 + 1) 84 #[.string (⟨#[114]⟩ : ByteArray), .int .i64 1, .int .i64 1]
  b4 : Blk W (n + 1 + 1 + 1 + 1) 86 #[.string (⟨#[109, 49]⟩ : ByteArray), .int .i64 1, .int .i64 10, .string (⟨#[109, 50]⟩ : ByteArray), .int .i64 1, .int .i64 5]
  b5 : Blk W (n + 1 + 1 + 1 + 1 + 1) 88 #[.int .i64 1, .int .i64 2, .int .i64 3]
theorem S14.md {n : Nat} {W : World} (x : S14 n W) : MD W W.heap.size (h14 n) m14 where
  dS := Reads.ofBlk2 x.b1 x.b1.lt rfl
  dF := Reads.ofBlk2 x.b2 x.b2.lt rfl
  dR := rows_one x.b3 x.b3.lt rfl ⟨rfl, by decide⟩
  dM := rows_two x.b4 x.b4.lt (vx := [.string (⟨#[109, 49]⟩ : ByteArray), .int .i64 1, .int .i64 10]) (vy := [.string (⟨#[109, 50]⟩ : ByteArray), .int .i64 1, .int .i64 5]) rfl rfl rfl ⟨rfl, by decide⟩ ⟨rfl, by decide⟩
  dL := rows_one x.b5 x.b5.lt rfl rfl
  dI := Rows.nil_
  dU := Rows.nil_
  sl := by decide
  fl := by decide
  rl := by decide
  ml := by decide
  ll := by decide
  il := by decide
  ul := by decide
  sf := by decide
  ff := by decide
theorem S14.grow {n : Nat} {W W2 : World} (x : S14 n W) (hb : Below W.heap.size W W2) : S14 n W2 := ⟨x.b1.below hb x.b1.lt, x.b2.below hb x.b2.lt, x.b3.below hb x.b3.lt, x.b4.below hb x.b4.lt, x.b5.below hb x.b5.lt⟩
theorem Blk.setRow_far {w : World} {g b : Nat} {t : TypeId} {cs cs2 : Array Value} (h : Blk w g t cs) (hne : g ≠ b) : Blk (w.setRow b cs2) g t cs := (setRow_other w b g cs2 hne).trans h
theorem S14.setRow {n b : Nat} {W : World} {cs : Array Value} (x : S14 n W) (hb : b ≤ n) : S14 n (W.setRow b cs) := ⟨x.b1.setRow_far (by omega), x.b2.setRow_far (by omega), x.b3.setRow_far (by omega), x.b4.setRow_far (by omega), x.b5.setRow_far (by omega)⟩
theorem new_blk (w : World) (t : TypeId) (cs : Array Value) {g : Nat} (h : g = w.heap.size) : Blk (w.alloc (.cells cs t)) g t cs := by subst h; exact Blk.new w t cs
structure W14 (w W : World) : Prop where
  b0 : Blk W w.heap.size 29 (cells22 (h14 w.heap.size) m14)
  s : S14 w.heap.size W
  bb : Below w.heap.size w W
def Ex14R (w : World) (e : Ending) (w' : World) : Prop := e = .returned (.agg (cells22 (h14 w.heap.size) m14)) ∧ W14 w w'
/-- the model of exoduslaw15.Example in memory; r is the block of the item's machines -/
def h15 (n r : Nat) : MH := { h14 n with i := some ⟨r + 1, 0, none⟩, ic := 1 }
structure X15 (n r : Nat) (W : World) : Prop where
  s : S14 n W
  o : Blk W r 3 #[.int .i64 2]
  i : Blk W (r + 1) 91 #[.string (⟨#[100, 98]⟩ : ByteArray), .int .i64 0, .int .i64 1, .int .i64 4, .int .i64 2, .int .i64 1, .slice (some ⟨r, 0, none⟩) 1 1]
theorem X15.md {n r : Nat} {W : World} (x : X15 n r W) : MD W W.heap.size (h15 n r) m15 :=
  { x.s.md with
    dI := rows_one x.i x.i.lt rfl ⟨_, 1, rfl, by decide, by decide, by decide, Reads.ofBlk2 x.o x.o.lt rfl⟩
    il := by decide }
theorem X15.grow {n r : Nat} {W W2 : World} (x : X15 n r W) (hb : Below W.heap.size W W2) : X15 n r W2 := ⟨x.s.grow hb, x.o.below hb x.o.lt, x.i.below hb x.i.lt⟩
/-- what exoduslaw15.Example answers -/
def Ex15R (w : World) (e : Ending) (w' : World) : Prop := ∃ n r, e = .returned (.agg (cells22 (h15 n r) m15)) ∧ X15 n r w' ∧ Below w.heap.size w w'
def z29 : Array Value := #[.slice none 0 0, .slice none 0 0, .slice none 0 0, .slice none 0 0, .slice none 0 0, .slice none 0 0, .int .i64 0, .int .i64 0, .int .i64 0, .int .i64 0, .slice none 0 0]
def W3 (w1 : World) (n : Nat) : World := ((w1.alloc (.cells (cells22 (h15 n (w1.heap.size + 1)) m15) 29)).alloc (.cells #[.int .i64 2] 3)).alloc (.cells #[.string (⟨#[100, 98]⟩ : ByteArray), .int .i64 0, .int .i64 1, .int .i64 4, .int .i64 2, .int .i64 1, .slice (some ⟨w1.heap.size + 1, 0, none⟩) 1 1] 91)
end Go.Proofs.YtpggamapmgpjcaaGreatDoor
