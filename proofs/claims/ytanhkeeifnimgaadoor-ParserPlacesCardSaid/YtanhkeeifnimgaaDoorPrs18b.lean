/- The walks of package parser: next, fail, take, comma, always. Conditions: lengths that fit memory. The walks of package parser: comma, always, name, ref, number, words. Conditions: lengths that fit memory. -/
import Derived.Test.YtanhkeeifnimgaaDoorOwn3
import Derived.Test.YtanhkeeifnimgaaDoorPar18d
import Derived.Test.YtanhkeeifnimgaaDoorSyn17c
import Derived.Deep.RegionHeld3

namespace Go.Proofs.YtanhkeeifnimgaaDoor
open Go Go.RowKit Go.Proofs

/-- below block B nothing has changed but block g -/
structure But (g B : Nat) (w w' : World) : Prop where
  os : w'.os = w.os
  tape : w'.tape = w.tape
  output : w'.output = w.output
  size : w.heap.size ≤ w'.heap.size
  block : ∀ k, k < B → k ≠ g → w'.heap[k]? = w.heap[k]?
theorem But.refl (g B : Nat) (w : World) : But g B w w := ⟨rfl, rfl, rfl, Nat.le_refl _, fun _ _ _ => rfl⟩
theorem But.trans {g B : Nat} {a b c : World} (h : But g B a b) (k : But g B b c) : But g B a c :=
  ⟨k.os.trans h.os, k.tape.trans h.tape, k.output.trans h.output, Nat.le_trans h.size k.size, fun i hi hn => (k.block i hi hn).trans (h.block i hi hn)⟩
theorem But.mono {g B B' : Nat} {w w' : World} (h : But g B w w') (hB : B' ≤ B) : But g B' w w' := ⟨h.os, h.tape, h.output, h.size, fun k hk hn => h.block k (Nat.lt_of_lt_of_le hk hB) hn⟩
theorem But.ofBelow {g B : Nat} {w w' : World} (h : Below B w w') : But g B w w' := ⟨h.os, h.tape, h.output, h.size, fun k hk _ => h.block k hk⟩
theorem But.toBelow {g B : Nat} {w w' : World} (h : But g B w w') : Below (min g B) w w' := ⟨h.os, h.tape, h.output, h.size, fun k hk => h.block k (by omega) (by omega)⟩
theorem But.below {g B : Nat} {w w' : World} (h : But g B w w') (hg : g ≤ B) : Below g w w' := ⟨h.os, h.tape, h.output, h.size, fun k hk => h.block k (by omega) (by omega)⟩
theorem But.cell {g B : Nat} {w w' : World} (h : But g B w w') {p : Addr} (hp : p.block < B) (hn : p.block ≠ g) : w'.cell? p = w.cell? p := World.cell?_of_block (h.block p.block hp hn)
theorem But.blk {g B b : Nat} {w w' : World} {t : TypeId} {cs : Array Value} (h : But g B w w') (hB : Blk w b t cs) (hb : b < B) (hn : b ≠ g) : Blk w' b t cs := (h.block b hb hn).trans hB
theorem But.grown {g : Nat} {w w' : World} (h : But g w.heap.size w w') : w.grownBy w' (some g) := ⟨h.os, h.tape, h.output, h.size, fun k hk hn => h.block k hk (fun e => hn (by rw [e]))⟩
theorem But.set_ {g B : Nat} (w : World) (i : Nat) (u : Value) : But g B w (w.setCell ⟨g, i, none⟩ u) :=
  ⟨rfl, rfl, rfl, by simp [World.setCell], fun k _ hn => Below.heap_setCell w ⟨g, i, none⟩ u k hn⟩
theorem But.ofGrown {g B : Nat} {w w' : World} {row : Option Nat} (h : w.grownBy w' row) (hB : B ≤ w.heap.size) (hr : ∀ k, row = some k → B ≤ k) : But g B w w' :=
  ⟨h.os, h.tape, h.output, h.size, fun k hk _ => h.block k (by omega) (fun e => by have := hr k e.symm; omega)⟩
/-- a slice whose block is not g -/
def Off (g : Nat) (A : Option Addr) : Prop := ∀ ad, A = some ad → ad.block ≠ g
theorem Reads.but {w w' : World} {B size n g : Nat} {A : Option Addr} {xs : List Value} (h : Reads w B size A n xs) (hA : Off g A) (hb : But g B w w') : Reads w' B size A n xs :=
  ⟨h.1, fun hn => by
    obtain ⟨ad, e, hlt, hc⟩ := h.2 hn
    exact ⟨ad, e, hlt, fun j u hu => (hb.cell (by rw [block_of_add]; exact hlt) (by rw [block_of_add]; exact hA ad e)).trans (hc j u hu)⟩⟩
theorem OwnS.but {B g : Nat} {w w' : World} {v : Value} {l : List ByteArray} (h : OwnS B w v l) (hb : But g w.heap.size w w') (hg : g < B) : OwnS B w' v l := by
  refine h.kept hb.grown ?_
  cases hv : v.ownBlock
  · exact .inl rfl
  · refine .inr (fun e => ?_)
    have := h.lt _ hv
    have e2 := Option.some.inj e
    omega
theorem OwnI.but {B g : Nat} {w w' : World} {v : Value} {l : List Int} (h : OwnI B w v l) (hb : But g w.heap.size w w') (hg : g < B) : OwnI B w' v l := by
  refine h.kept hb.grown ?_
  cases hv : v.ownBlock
  · exact .inl rfl
  · refine .inr (fun e => ?_)
    have := h.lt _ hv
    have e2 := Option.some.inj e
    omega

/-- the block of a parser -/
def PB (w : World) (bp b off c n : Nat) (e k : Int) (nm : ByteArray) (rv nv : Value) (bY : Int) (al : Bool) : Prop :=
  Blk w bp 49 #[.slice (some ⟨b, off, none⟩) n c, .int .i64 e, .int .i64 k, .string nm, rv, nv, .int .i64 bY, .bool al]

theorem Toks.tail_ {w : World} {B b off : Nat} {t : Tok} {ts : List Tok} (h : Toks w B (some ⟨b, off, none⟩) (t :: ts)) : Toks w B (some ⟨b, off + 4, none⟩) ts := by
  have := Reads.cut (k := 1) (cap := (t :: ts).length + 1) h (by simp) (by simp)
  rw [if_neg (by simp)] at this
  have e1 : (t :: ts).length - 1 = ts.length := by simp
  have e2 : ((t :: ts).flatMap tokCells).drop (1 * 4) = ts.flatMap tokCells := by simp [tokCells]
  rw [e1, e2] at this
  unfold Toks
  simpa [Addr.add] using this
section
variable {bp b off c : Nat} {e k : Int} {nm : ByteArray} {rv nv : Value} {bY : Int} {al : Bool}
theorem PB.cells {w : World} {n : Nat} (h : PB w bp b off c n e k nm rv nv bY al) : w.cell? ⟨bp, 0, none⟩ = some (.slice (some ⟨b, off, none⟩) n c) ∧ w.cell? ⟨bp, 1, none⟩ = some (.int .i64 e) ∧ w.cell? ⟨bp, 2, none⟩ = some (.int .i64 k) ∧ w.cell? ⟨bp, 3, none⟩ = some (.string nm) ∧ w.cell? ⟨bp, 4, none⟩ = some rv ∧ w.cell? ⟨bp, 5, none⟩ = some nv ∧ w.cell? ⟨bp, 6, none⟩ = some (.int .i64 bY) ∧ w.cell? ⟨bp, 7, none⟩ = some (.bool al) ∧ bp < w.heap.size :=
  ⟨Blk.cell h 0, Blk.cell h 1, Blk.cell h 2, Blk.cell h 3, Blk.cell h 4, Blk.cell h 5, Blk.cell h 6, Blk.cell h 7, Blk.lt h⟩
theorem PB.frozen {w : World} {n : Nat} (h : PB w bp b off c n e k nm rv nv bY al) (i : Nat) : w.frozen? ⟨bp, i, none⟩ = false := Blk.frozen h i

theorem PB.next_ {w z : World} {o : Obj} {n : Nat} (h : PB w bp b off c n e k nm rv nv bY al) (hz : Below (w.alloc o).heap.size (w.alloc o) z) : PB z bp b off c n e k nm rv nv bY al := Blk.below (Blk.alloc h o) hz (by have := Blk.lt h; simp; omega)

set_option maxHeartbeats 1000000 in
theorem next_any (tk : Int) (tt : ByteArray) (tn tp : Int) (ts : List Tok) (X : World)
    (hP : PB X bp b off c (ts.length + 1) e k nm rv nv bY al) (hT : Toks X X.heap.size (some ⟨b, off, none⟩) (⟨tk, tt, tn, tp⟩ :: ts)) :
    Calls Tryd.prog 27 #[.pointer (some ⟨bp, 0, none⟩)] X fun e X' => e = .returned (.agg #[.int .i64 tk, .string tt, .int .i64 tn, .int .i64 tp]) ∧ Below X.heap.size X X' := by
  obtain ⟨b', off', eA, hb, y0, y1, y2, y3⟩ := hT.at_ (j := 0) (by simp)
  obtain ⟨rfl, rfl⟩ : b = b' ∧ off = off' := by injection eA with h; injection h with h1 h2; exact ⟨h1, h2⟩
  obtain ⟨c0, _, _, _, _, _, _, _, hbp⟩ := hP.cells
  simp at y0 y1 y2 y3 c0
  have hlenI : (0 : Int) < (ts.length : Int) + 1 := by omega
  clear hT eA
  go_enter Tryd.func27, Tryd.ntmps27
  go_wp2_with fail
  refine bodyPost_ret (v := .agg #[.int .i64 tk, .string tt, .int .i64 tn, .int .i64 tp]) (by simp [results, Tryd.results27, go_sem, *]) rfl ⟨rfl, ?_⟩
  repeat (first | (with_reducible exact Below.refl _ _) | (with_reducible refine Below.alloc ?_ (by simp) _) | (with_reducible refine Below.setCell ?_ (by simp) _))

set_option maxHeartbeats 1000000 in
theorem fail_any {n : Nat} (q e' : Int) (X : World) (hP : PB X bp b off c n e k nm rv nv bY al) (he' : Hid (e' = if e = 0 then q else e)) :
    Calls Tryd.prog 28 #[.pointer (some ⟨bp, 0, none⟩), .int .i64 q] X fun ee X' => ee = .returned (.tuple #[]) ∧ PB X' bp b off c n e' k nm rv nv bY al ∧ But bp X.heap.size X X' ∧ X'.heap.size = X.heap.size := by
  obtain ⟨c0, c1, _, _, _, _, _, _, hbp⟩ := hP.cells
  have f1 := hP.frozen 1
  by_cases he : e = 0
  · have HE := hide (he'.out.trans (if_pos he))
    subst he
    clear he'
    go_enter Tryd.func28, Tryd.ntmps28
    go_wp2_with fail
    go_end0
    rw [HE.out]
    exact ⟨rfl, Blk.set_ hP 1 _, But.set_ _ _ _, by simp [World.setCell]⟩
  · have hb0 : ((e : Int) == 0) = false := by simpa using he
    have HE := hide (he'.out.trans (if_neg he))
    clear he he'
    go_enter Tryd.func28, Tryd.ntmps28
    go_wp2_with fail
    go_end0
    rw [HE.out]
    exact ⟨rfl, hP, But.refl _ _ _, rfl⟩
/-- what take answers: the token, and the parser behind it -/
def TakeR (bp b : Nat) (k : Int) (nm : ByteArray) (rv nv : Value) (bY : Int) (al : Bool) (r : Tok × PS) (X : World) (ee : Ending) (X' : World) : Prop :=
  ee = .returned (tokV r.1) ∧ (∃ off c, PB X' bp b off c r.2.toks.length r.2.e k nm rv nv bY al ∧ r.2.toks.length ≤ c ∧ Toks X' X'.heap.size (some ⟨b, off, none⟩) r.2.toks) ∧ But bp X.heap.size X X'
theorem take_no {t : Tok} {ts : List Tok} {d : Decl} {q : Int} {tx : List ByteArray} (h : e ≠ 0 ∨ t.kind ≠ q ∨ (tx ≠ [] ∧ hasS tx t.text = false)) : PS.take ⟨t :: ts, e, d⟩ q tx = (noTok, ⟨t :: ts, if e = 0 then 3 else e, d⟩) := by
  unfold PS.take PS.fail
  rw [if_pos (show ((⟨t :: ts, e, d⟩ : PS).e ≠ 0 ∨ (⟨t :: ts, e, d⟩ : PS).next.kind ≠ q ∨ (tx ≠ [] ∧ hasS tx (⟨t :: ts, e, d⟩ : PS).next.text = false)) from h)]
  by_cases he : e = 0
  · rw [if_pos he, if_pos (show (⟨t :: ts, e, d⟩ : PS).e = 0 from he)]
  · rw [if_neg he, if_neg (show ¬ (⟨t :: ts, e, d⟩ : PS).e = 0 from he)]
theorem take_yes {t : Tok} {ts : List Tok} {d : Decl} {q : Int} {tx : List ByteArray} (h0 : e = 0) (h1 : t.kind = q) (h2 : tx = [] ∨ hasS tx t.text = true) : PS.take ⟨t :: ts, e, d⟩ q tx = (t, ⟨ts, 0, d⟩) := by
  subst h0
  obtain ⟨tk, tt, tn, tp⟩ := t
  obtain rfl : tk = q := h1
  exact take_go h2

theorem take_end {t : Tok} {d : Decl} {l : List Tok} {X y F : World} (hP : PB y bp b off c l.length e k nm rv nv bY al) (hB : But bp X.heap.size X y) (hT : Toks y X.heap.size (some ⟨b, off, none⟩) l) (hc : l.length ≤ c) (hbp : bp < X.heap.size) (hF : Below X.heap.size y F) :
    TakeR bp b k nm rv nv bY al (t, ⟨l, e, d⟩) X (.returned (tokV t)) F :=
  ⟨rfl, ⟨off, c, Blk.below hP hF hbp, hc, (hT.below hF).more (Nat.le_trans hB.size hF.size)⟩, hB.trans (But.ofBelow hF)⟩

set_option maxRecDepth 100000 in
set_option maxHeartbeats 4000000 in
theorem take_any (d : Decl) (q : Int) (A : Option Addr) (c2 : Nat) (tx : List ByteArray) (t : Tok) (ts : List Tok) (X : World)
    (hP : PB X bp b off c (ts.length + 1) e k nm rv nv bY al) (hT : Toks X X.heap.size (some ⟨b, off, none⟩) (t :: ts)) (hc : ts.length + 1 ≤ c) (hb : b ≠ bp) (_hbz : b < X.heap.size) (hE : EndT (t :: ts)) (hq : q ≠ 0)
    (hA : Strs X X.heap.size A tx) (htl : tx.length ≤ 9223372036854775807) :
    Calls Tryd.prog 57 #[.pointer (some ⟨bp, 0, none⟩), .int .i64 q, .slice A tx.length c2] X (TakeR bp b k nm rv nv bY al (PS.take ⟨t :: ts, e, d⟩ q tx) X) := by
  obtain ⟨_, _, _, _, _, _, _, _, hbp⟩ := hP.cells
  have hD0 := Blk.new X 33 #[.int .i64 0, .string ⟨#[]⟩, .int .i64 0, .int .i64 0]
  have hB0 : Below X.heap.size X (X.alloc (.cells #[.int .i64 0, .string ⟨#[]⟩, .int .i64 0, .int .i64 0] 33)) := (Below.refl _ _).alloc (Nat.le_refl _) _
  obtain ⟨tk, tt, tn, tp⟩ := t
  have hNX := next_any tk tt tn tp ts _ (Blk.alloc hP (.cells #[.int .i64 0, .string ⟨#[]⟩, .int .i64 0, .int .i64 0] 33)) ((Reads.alloc hT (Nat.le_refl _) (.cells #[.int .i64 0, .string ⟨#[]⟩, .int .i64 0, .int .i64 0] 33)).more (by simp))
  have HNX := hide hNX
  clear hNX
  by_cases hno : e ≠ 0 ∨ tk ≠ q ∨ (tx ≠ [] ∧ hasS tx tt = false)
  · have HT := hide (take_no (d := d) (ts := ts) (t := ⟨tk, tt, tn, tp⟩) hno)
    generalize he3 : (if e = 0 then 3 else e) = e3 at HT
    have HE3 := hide he3.symm
    clear he3
    have hcase : e ≠ 0 ∨ (e = 0 ∧ tk ≠ q) ∨ (e = 0 ∧ tk = q ∧ 0 < tx.length ∧ hasS tx tt = false) := by
      by_cases h1 : e = 0
      · by_cases h2 : tk = q
        · rcases hno with h | h | ⟨h, h'⟩
          · exact absurd h1 h
          · exact absurd h2 h
          · exact .inr (.inr ⟨h1, h2, List.length_pos_iff.2 h, h'⟩)
        · exact .inr (.inl ⟨h1, h2⟩)
      · exact .inl h1
    clear hno
    rcases hcase with he | ⟨he, hk⟩ | ⟨he, hk, hl, hh⟩
    · have b0 : ((e : Int) != 0) = true := by simpa using he
      clear he
      go_enter Tryd.func57, Tryd.ntmps57
      go_wp2_with (first | (go_at_call 27; refine HNX.out.mono ?_; rintro e1 z ⟨rfl, hz⟩; have hBz := hB0.trans (hz.mono hB0.size); have hPz := PB.next_ hP hz; have hDz := hD0.below hz (by simp); obtain ⟨x0, x1, x2, x3, x4, x5, x6, x7, hbpz⟩ := hPz.cells) | (go_at_call 28; refine (fail_any 3 e3 _ (Blk.alloc hPz _) HE3).mono ?_; rintro e2 y ⟨rfl, hPy, hBy, hsy⟩; have hDy := But.blk hBy (Blk.alloc hDz _) (by have := hDz.lt; simp; omega) (by omega); have d0 := hDy.cell 0; have d1 := hDy.cell 1; have d2 := hDy.cell 2; have d3 := hDy.cell 3; have f0 := hDy.frozen 0; have f1 := hDy.frozen 1; have f2 := hDy.frozen 2; have f3 := hDy.frozen 3; have hyz := hDy.lt; simp at d0 d1 d2 d3))
      refine bodyPost_ret (v := .agg #[.int .i64 0, .string ⟨#[]⟩, .int .i64 0, .int .i64 0]) (by simp [results, Tryd.results57, go_sem, *]) rfl ?_
      rw [HT.out]
      have hB1 : But bp X.heap.size X y := (But.ofBelow (hBz.alloc hBz.size _)).trans (hBy.mono (Nat.le_trans hBz.size (by simp)))
      have hTy : Toks y X.heap.size (some ⟨b, off, none⟩) (⟨tk, tt, tn, tp⟩ :: ts) := Reads.but hT (fun ad e => by injection e with e; subst e; exact hb) hB1
      refine take_end hPy hB1 hTy hc hbp ?_
      repeat (first | (with_reducible exact Below.refl _ _) | (with_reducible refine Below.setCell ?_ (by simp) _))
    · have b0 : ((e : Int) != 0) = false := by simpa using he
      have b1 : ((tk : Int) != q) = true := by simpa using hk
      clear he hk
      go_enter Tryd.func57, Tryd.ntmps57
      go_wp2_with (first | (go_at_call 27; refine HNX.out.mono ?_; rintro e1 z ⟨rfl, hz⟩; have hBz := hB0.trans (hz.mono hB0.size); have hPz := PB.next_ hP hz; have hDz := hD0.below hz (by simp); obtain ⟨x0, x1, x2, x3, x4, x5, x6, x7, hbpz⟩ := hPz.cells) | (go_at_call 28; refine (fail_any 3 e3 _ (Blk.alloc hPz _) HE3).mono ?_; rintro e2 y ⟨rfl, hPy, hBy, hsy⟩; have hDy := But.blk hBy (Blk.alloc hDz _) (by have := hDz.lt; simp; omega) (by omega); have d0 := hDy.cell 0; have d1 := hDy.cell 1; have d2 := hDy.cell 2; have d3 := hDy.cell 3; have f0 := hDy.frozen 0; have f1 := hDy.frozen 1; have f2 := hDy.frozen 2; have f3 := hDy.frozen 3; have hyz := hDy.lt; simp at d0 d1 d2 d3))
      refine bodyPost_ret (v := .agg #[.int .i64 0, .string ⟨#[]⟩, .int .i64 0, .int .i64 0]) (by simp [results, Tryd.results57, go_sem, *]) rfl ?_
      rw [HT.out]
      have hB1 : But bp X.heap.size X y := (But.ofBelow (hBz.alloc hBz.size _)).trans (hBy.mono (Nat.le_trans hBz.size (by simp)))
      have hTy : Toks y X.heap.size (some ⟨b, off, none⟩) (⟨tk, tt, tn, tp⟩ :: ts) := Reads.but hT (fun ad e => by injection e with e; subst e; exact hb) hB1
      refine take_end hPy hB1 hTy hc hbp ?_
      repeat (first | (with_reducible exact Below.refl _ _) | (with_reducible refine Below.setCell ?_ (by simp) _))
    · have b0 : ((e : Int) != 0) = false := by simpa using he
      have b1 : ((tk : Int) != q) = false := by simpa using hk
      have b2 : (0 : Int) < (tx.length : Int) := by omega
      have HC := fun (W : World) (h : Strs W W.heap.size A tx) => contains_strs A c2 tx tt W htl h
      rw [hh] at HC
      have HC := hide HC
      clear he hk hh hl
      go_enter Tryd.func57, Tryd.ntmps57
      go_wp2_with (first | (go_at_call 27; refine HNX.out.mono ?_; rintro e1 z ⟨rfl, hz⟩; have hBz := hB0.trans (hz.mono hB0.size); have hPz := PB.next_ hP hz; have hDz := hD0.below hz (by simp); obtain ⟨x0, x1, x2, x3, x4, x5, x6, x7, hbpz⟩ := hPz.cells) | (go_at_call 28; refine (fail_any 3 e3 _ (Blk.alloc hPz _) HE3).mono ?_; rintro e2 y ⟨rfl, hPy, hBy, hsy⟩; have hDy := But.blk hBy (Blk.alloc hDz _) (by have := hDz.lt; simp; omega) (by omega); have d0 := hDy.cell 0; have d1 := hDy.cell 1; have d2 := hDy.cell 2; have d3 := hDy.cell 3; have f0 := hDy.frozen 0; have f1 := hDy.frozen 1; have f2 := hDy.frozen 2; have f3 := hDy.frozen 3; have hyz := hDy.lt; simp at d0 d1 d2 d3) | (go_at_call 91; refine (HC.out _ (Reads.alloc ((hA.below hBz).more hBz.size) (Nat.le_refl _) _ |>.more (by simp))).mono ?_; rintro e9 w9 ⟨rfl, rfl⟩))
      refine bodyPost_ret (v := .agg #[.int .i64 0, .string ⟨#[]⟩, .int .i64 0, .int .i64 0]) (by simp [results, Tryd.results57, go_sem, *]) rfl ?_
      rw [HT.out]
      have hB1 : But bp X.heap.size X y := (But.ofBelow (hBz.alloc hBz.size _)).trans (hBy.mono (Nat.le_trans hBz.size (by simp)))
      have hTy : Toks y X.heap.size (some ⟨b, off, none⟩) (⟨tk, tt, tn, tp⟩ :: ts) := Reads.but hT (fun ad e => by injection e with e; subst e; exact hb) hB1
      refine take_end hPy hB1 hTy hc hbp ?_
      repeat (first | (with_reducible exact Below.refl _ _) | (with_reducible refine Below.setCell ?_ (by simp) _))
  · have hyes : e = 0 ∧ tk = q ∧ (tx = [] ∨ (0 < tx.length ∧ hasS tx tt = true)) := by
      simp only [not_or, Decidable.not_not, not_and] at hno
      refine ⟨hno.1, hno.2.1, ?_⟩
      by_cases h : tx = []
      · exact .inl h
      · exact .inr ⟨List.length_pos_iff.2 h, by simpa using hno.2.2 h⟩
    obtain ⟨rfl, rfl, h3⟩ := hyes
    have HT := hide (take_yes (d := d) (ts := ts) (t := ⟨tk, tt, tn, tp⟩) (tx := tx) rfl rfl (h3.imp id (·.2)))
    have hne := (hE.tail hq).ne
    obtain ⟨m, hm⟩ : ∃ m, ts.length = m + 1 := ⟨ts.length - 1, by have := List.length_pos_iff.2 hne; omega⟩
    obtain ⟨cc, rfl⟩ : ∃ cc, c = cc + 2 := ⟨c - 2, by omega⟩
    clear hno hne hE hq
    have HC := fun (W : World) (h : Strs W W.heap.size A tx) => contains_strs A c2 tx tt W htl h
    have hTz := fun (W : World) (h : But bp X.heap.size X W) => Reads.but hT (fun ad e => by injection e with e; subst e; exact hb) h
    have hn1 : (1 : Int) ≤ (ts.length : Int) + 1 := by omega
    rcases h3 with h3 | ⟨h3, h4⟩
    · have b2 : ¬ (0 : Int) < (tx.length : Int) := by rw [h3]; simp
      clear h3 HC
      go_enter Tryd.func57, Tryd.ntmps57
      go_wp2_with fail
      go_at_call 27
      refine HNX.out.mono ?_
      rintro e1 z ⟨rfl, hz⟩
      have hBz := hB0.trans (hz.mono hB0.size)
      have hPz := PB.next_ hP hz
      have hDz := hD0.below hz (by simp)
      obtain ⟨x0, x1, x2, x3, x4, x5, x6, x7, hbpz⟩ := hPz.cells
      have e0 := hDz.cell 0
      have e1 := hDz.cell 1
      have e2 := hDz.cell 2
      have e3 := hDz.cell 3
      have g0 := hDz.frozen 0
      have g1 := hDz.frozen 1
      have g2 := hDz.frozen 2
      have g3 := hDz.frozen 3
      have gp := hPz.frozen 0
      have hn2 : ¬ z.heap.size = bp := by omega
      have hn3 : ¬ X.heap.size = bp := by omega
      have hn4 := hDz.lt
      simp at e0 e1 e2 e3
      go_wp2_with fail
      refine bodyPost_ret (v := .agg #[.int .i64 tk, .string tt, .int .i64 tn, .int .i64 tp]) (by simp [results, Tryd.results57, go_sem, *]) rfl ?_
      rw [HT.out]
      have hPy : PB (z.setCell ⟨bp, 0, none⟩ (.slice (some ⟨b, off + 4, none⟩) (m + 1) (cc + 1))) bp b (off + 4) (cc + 1) ts.length 0 k nm rv nv bY al := by rw [hm]; exact Blk.set_ hPz 0 _
      have hB1 : But bp X.heap.size X (z.setCell ⟨bp, 0, none⟩ (.slice (some ⟨b, off + 4, none⟩) (m + 1) (cc + 1))) := (But.ofBelow hBz).trans (But.set_ z 0 _)
      refine take_end hPy hB1 (Toks.tail_ (hTz _ hB1)) (by omega) hbp ?_
      repeat (first | (with_reducible exact Below.refl _ _) | (with_reducible refine Below.alloc ?_ (by simp [World.setCell]; omega) _) | (with_reducible refine Below.setCell ?_ (by simp) _))
    · have b2 : (0 : Int) < (tx.length : Int) := by omega
      rw [h4] at HC
      have HC := hide HC
      clear h3 h4
      go_enter Tryd.func57, Tryd.ntmps57
      go_wp2_with fail
      go_at_call 27
      refine HNX.out.mono ?_
      rintro e1 z ⟨rfl, hz⟩
      have hBz := hB0.trans (hz.mono hB0.size)
      have hPz := PB.next_ hP hz
      have hDz := hD0.below hz (by simp)
      obtain ⟨x0, x1, x2, x3, x4, x5, x6, x7, hbpz⟩ := hPz.cells
      have e0 := hDz.cell 0
      have e1 := hDz.cell 1
      have e2 := hDz.cell 2
      have e3 := hDz.cell 3
      have g0 := hDz.frozen 0
      have g1 := hDz.frozen 1
      have g2 := hDz.frozen 2
      have g3 := hDz.frozen 3
      have gp := hPz.frozen 0
      have hn2 : ¬ z.heap.size = bp := by omega
      have hn3 : ¬ X.heap.size = bp := by omega
      have hn4 := hDz.lt
      simp at e0 e1 e2 e3
      go_wp2_with ((go_at_call 91; refine (HC.out _ (Reads.alloc ((hA.below hBz).more hBz.size) (Nat.le_refl _) _ |>.more (by simp))).mono ?_; rintro e9 w9 ⟨rfl, rfl⟩))
      refine bodyPost_ret (v := .agg #[.int .i64 tk, .string tt, .int .i64 tn, .int .i64 tp]) (by simp [results, Tryd.results57, go_sem, *]) rfl ?_
      rw [HT.out]
      have hPy : PB (z.setCell ⟨bp, 0, none⟩ (.slice (some ⟨b, off + 4, none⟩) (m + 1) (cc + 1))) bp b (off + 4) (cc + 1) ts.length 0 k nm rv nv bY al := by rw [hm]; exact Blk.set_ hPz 0 _
      have hB1 : But bp X.heap.size X (z.setCell ⟨bp, 0, none⟩ (.slice (some ⟨b, off + 4, none⟩) (m + 1) (cc + 1))) := (But.ofBelow hBz).trans (But.set_ z 0 _)
      refine take_end hPy hB1 (Toks.tail_ (hTz _ hB1)) (by omega) hbp ?_
      repeat (first | (with_reducible exact Below.refl _ _) | (with_reducible refine Below.alloc ?_ (by simp [World.setCell]; omega) _) | (with_reducible refine Below.setCell ?_ (by simp) _))

end
end Go.Proofs.YtanhkeeifnimgaaDoor

namespace Go.Proofs.YtanhkeeifnimgaaDoor
open Go Go.RowKit Go.Proofs

/-- two rows of the call's own do not share a block -/
def Sep (a b : Value) : Prop := ∀ g, a.ownBlock = some g → b.ownBlock ≠ some g
/-- the state of a parser whose block is bp; what it has read lies in blocks from B on -/
def PSt (w : World) (bp B : Nat) (s : PS) : Prop := ∃ (b off c : Nat) (rv nv : Value), PB w bp b off c s.toks.length s.e s.d.kind s.d.name rv nv s.d.by_ s.d.always ∧ s.toks.length ≤ c ∧ b ≠ bp ∧ b < bp ∧ Toks w w.heap.size (some ⟨b, off, none⟩) s.toks ∧ OwnS B w rv s.d.refs ∧ OwnI B w nv s.d.nums ∧ EndT s.toks ∧ bp < B ∧ B ≤ w.heap.size ∧ Sep rv nv
/-- what a step answers -/
def StepR (bp B : Nat) (s : PS) (v : Value) (X : World) (ee : Ending) (X' : World) : Prop := ee = .returned v ∧ PSt X' bp B s ∧ But bp B X X'
theorem PSt.below {w w' : World} {bp B : Nat} {s : PS} (h : PSt w bp B s) (hb : Below w.heap.size w w') : PSt w' bp B s := by
  obtain ⟨b, off, c, rv, nv, h1, h2, h3, h4, h5, h6, h7, h8, h9, h10, h11⟩ := h
  exact ⟨b, off, c, rv, nv, Blk.below h1 hb (Blk.lt h1), h2, h3, h4, (h5.below hb).more hb.size, h6.below hb, h7.below hb, h8, h9, Nat.le_trans h10 hb.size, h11⟩
theorem end_cons {l : List Tok} (h : EndT l) : ∃ tk tt tn tp ts, l = (⟨tk, tt, tn, tp⟩ : Tok) :: ts := by
  cases l with
  | nil => exact absurd rfl h.ne
  | cons t ts => obtain ⟨tk, tt, tn, tp⟩ := t; exact ⟨tk, tt, tn, tp, ts, rfl⟩
theorem lit_is (s : ByteArray) (l : List UInt8) : (s.toList == l) = decide (s = ⟨l.toArray⟩) := by
  have := toList_beq s ⟨l.toArray⟩
  rw [← this, ByteArray.toList_eq ⟨l.toArray⟩]
/-- a parser's state behind take -/
theorem PSt.took {X X' : World} {bp B b : Nat} {k : Int} {nm : ByteArray} {rv nv : Value} {bY : Int} {al : Bool} {r : Tok × PS} {ee : Ending} (h : TakeR bp b k nm rv nv bY al r X ee X') (hk : r.2.d.kind = k) (hn : r.2.d.name = nm) (hy : r.2.d.by_ = bY) (ha : r.2.d.always = al)
    (hb : b ≠ bp) (hbB : b < bp) (hO : OwnS B X rv r.2.d.refs) (hI : OwnI B X nv r.2.d.nums) (hE : EndT r.2.toks) (hB : bp < B) (hBX : B ≤ X.heap.size) (hS : Sep rv nv) : ee = .returned (tokV r.1) ∧ PSt X' bp B r.2 ∧ But bp X.heap.size X X' := by
  obtain ⟨rfl, ⟨off, c, h1, h2, h3⟩, h4⟩ := h
  subst hk hn hy ha
  exact ⟨rfl, ⟨b, off, c, rv, nv, h1, h2, hb, hbB, h3, hO.but h4 hB, hI.but h4 hB, hE, hB, Nat.le_trans hBX h4.size, hS⟩, h4⟩
theorem take_st {bp B : Nat} {s : PS} (q : Int) (A : Option Addr) (c2 : Nat) (tx : List ByteArray) (X : World) (h : PSt X bp B s) (hq : q ≠ 0) (hA : Strs X X.heap.size A tx) (htl : tx.length ≤ 9223372036854775807) :
    Calls Tryd.prog 57 #[.pointer (some ⟨bp, 0, none⟩), .int .i64 q, .slice A tx.length c2] X fun ee X' => ee = .returned (tokV (s.take q tx).1) ∧ PSt X' bp B (s.take q tx).2 ∧ But bp X.heap.size X X' := by
  obtain ⟨b, off, c, rv, nv, h1, h2, h3, h4, h5, h6, h7, h8, h9, h10, h11⟩ := h
  obtain ⟨toks, e, d⟩ := s
  have hA2 := take_aft ⟨toks, e, d⟩ hq tx
  have hd := take_d ⟨toks, e, d⟩ q tx
  simp only at h1 h2 h5 h6 h7 h8
  cases toks with
  | nil => exact absurd rfl h8.ne
  | cons t ts =>
    refine (take_any d q A c2 tx t ts X h1 h5 h2 h3 (by omega) h8 hq hA htl).mono fun ee X' h => ?_
    exact PSt.took h (by rw [hd]) (by rw [hd]) (by rw [hd]) (by rw [hd]) h3 h4 (by rw [hd]; exact h6) (by rw [hd]; exact h7) (hA2.2 h8) h9 h10 h11
theorem next_st {bp B : Nat} {s : PS} (X : World) (h : PSt X bp B s) : Calls Tryd.prog 27 #[.pointer (some ⟨bp, 0, none⟩)] X fun e X' => e = .returned (.agg #[.int .i64 s.next.kind, .string s.next.text, .int .i64 s.next.n, .int .i64 s.next.pos]) ∧ Below X.heap.size X X' := by
  obtain ⟨b, off, c, rv, nv, h1, h2, h3, h4, h5, h6, h7, h8, h9, h10, h11⟩ := h
  obtain ⟨toks, e, d⟩ := s
  simp only at h1 h2 h5 h6 h7 h8
  obtain ⟨tk, tt, tn, tp, ts, rfl⟩ := end_cons h8
  exact next_any tk tt tn tp ts X h1 h5
theorem fail_st {bp B : Nat} {s : PS} (q : Int) (X : World) (h : PSt X bp B s) : Calls Tryd.prog 28 #[.pointer (some ⟨bp, 0, none⟩), .int .i64 q] X (StepR bp B (s.fail q) (.tuple #[]) X) := by
  obtain ⟨b, off, c, rv, nv, h1, h2, h3, h4, h5, h6, h7, h8, h9, h10, h11⟩ := h
  have e1 : (s.fail q).toks = s.toks := fail_toks s q
  have e2 : (s.fail q).d = s.d := fail_d s q
  have e3 : (s.fail q).e = if s.e = 0 then q else s.e := by unfold PS.fail; split <;> rfl
  refine (fail_any q (s.fail q).e X h1 (hide e3)).mono ?_
  rintro ee X' ⟨rfl, hP, hB, hs⟩
  refine ⟨rfl, ⟨b, off, c, rv, nv, by rw [e1, e2]; exact hP, by rw [e1]; exact h2, h3, h4, ?_, ?_, ?_, by rw [e1]; exact h8, h9, by omega, h11⟩, hB.mono h10⟩
  · rw [e1]; exact (Reads.but h5 (fun ad e => by injection e with e; subst e; exact h3) hB).more hB.size
  · rw [e2]; exact h6.but hB h9
  · rw [e2]; exact h7.but hB h9
theorem PSt.cells {w : World} {bp B : Nat} {s : PS} (h : PSt w bp B s) : w.cell? ⟨bp, 1, none⟩ = some (.int .i64 s.e) ∧ w.cell? ⟨bp, 2, none⟩ = some (.int .i64 s.d.kind) ∧ w.cell? ⟨bp, 3, none⟩ = some (.string s.d.name) ∧ w.cell? ⟨bp, 6, none⟩ = some (.int .i64 s.d.by_) ∧ w.cell? ⟨bp, 7, none⟩ = some (.bool s.d.always) ∧ bp < w.heap.size ∧ (∀ i, w.frozen? ⟨bp, i, none⟩ = false) := by
  obtain ⟨b, off, c, rv, nv, h1, h2, h3, h4, h5, h6, h7, h8, h9, h10, h11⟩ := h
  obtain ⟨c0, c1, c2, c3, c4, c5, c6, c7, hb⟩ := h1.cells
  exact ⟨c1, c2, c3, c6, c7, hb, fun i => h1.frozen i⟩
theorem PSt.bp_lt {w : World} {bp B : Nat} {s : PS} (h : PSt w bp B s) : bp < B ∧ B ≤ w.heap.size := by
  obtain ⟨b, off, c, rv, nv, h1, h2, h3, h4, h5, h6, h7, h8, h9, h10, h11⟩ := h
  exact ⟨h9, h10⟩
theorem PSt.set_name {w : World} {bp B : Nat} {s : PS} (h : PSt w bp B s) (x : ByteArray) : PSt (w.setCell ⟨bp, 3, none⟩ (.string x)) bp B { s with d := { s.d with name := x } } := by
  obtain ⟨b, off, c, rv, nv, h1, h2, h3, h4, h5, h6, h7, h8, h9, h10, h11⟩ := h
  have hB : But bp w.heap.size w (w.setCell ⟨bp, 3, none⟩ (.string x)) := But.set_ w 3 _
  exact ⟨b, off, c, rv, nv, Blk.set_ h1 3 _, h2, h3, h4, (Reads.but h5 (fun ad e => by injection e with e; subst e; exact h3) hB).more hB.size, h6.but hB h9, h7.but hB h9, h8, h9, Nat.le_trans h10 hB.size, h11⟩
theorem PSt.set_by {w : World} {bp B : Nat} {s : PS} (h : PSt w bp B s) (x : Int) : PSt (w.setCell ⟨bp, 6, none⟩ (.int .i64 x)) bp B { s with d := { s.d with by_ := x } } := by
  obtain ⟨b, off, c, rv, nv, h1, h2, h3, h4, h5, h6, h7, h8, h9, h10, h11⟩ := h
  have hB : But bp w.heap.size w (w.setCell ⟨bp, 6, none⟩ (.int .i64 x)) := But.set_ w 6 _
  exact ⟨b, off, c, rv, nv, Blk.set_ h1 6 _, h2, h3, h4, (Reads.but h5 (fun ad e => by injection e with e; subst e; exact h3) hB).more hB.size, h6.but hB h9, h7.but hB h9, h8, h9, Nat.le_trans h10 hB.size, h11⟩
theorem PSt.set_always {w : World} {bp B : Nat} {s : PS} (h : PSt w bp B s) (x : Bool) : PSt (w.setCell ⟨bp, 7, none⟩ (.bool x)) bp B { s with d := { s.d with always := x } } := by
  obtain ⟨b, off, c, rv, nv, h1, h2, h3, h4, h5, h6, h7, h8, h9, h10, h11⟩ := h
  have hB : But bp w.heap.size w (w.setCell ⟨bp, 7, none⟩ (.bool x)) := But.set_ w 7 _
  exact ⟨b, off, c, rv, nv, Blk.set_ h1 7 _, h2, h3, h4, (Reads.but h5 (fun ad e => by injection e with e; subst e; exact h3) hB).more hB.size, h6.but hB h9, h7.but hB h9, h8, h9, Nat.le_trans h10 hB.size, h11⟩
theorem strs_none (w : World) (B : Nat) : Strs w B none [] := Reads.none_

set_option maxHeartbeats 2000000 in
theorem comma_st {bp B : Nat} {s : PS} (X : World) (h : PSt X bp B s) :
    Calls Tryd.prog 128 #[.pointer (some ⟨bp, 0, none⟩)] X (StepR bp B s.comma.2 (.bool s.comma.1) X) := by
  have HN := hide (next_st X h)
  have hlt := h.bp_lt
  generalize hk : s.next.kind = tk at HN
  generalize ht : s.next.text = tt at HN
  generalize s.next.n = tn at HN
  generalize s.next.pos = tp at HN
  by_cases hno : s.e ≠ 0 ∨ tk ≠ 4 ∨ tt ≠ (⟨#[44]⟩ : ByteArray)
  · have HC := hide (show s.comma = (false, s) by unfold PS.comma; rw [if_pos (by rw [hk, ht]; exact hno)])
    have hcase : s.e ≠ 0 ∨ (s.e = 0 ∧ tk ≠ 4) ∨ (s.e = 0 ∧ tk = 4 ∧ tt ≠ (⟨#[44]⟩ : ByteArray)) := by
      by_cases h1 : s.e = 0
      · by_cases h2 : tk = 4
        · exact .inr (.inr ⟨h1, h2, by rcases hno with h | h | h; exact absurd h1 h; exact absurd h2 h; exact h⟩)
        · exact .inr (.inl ⟨h1, h2⟩)
      · exact .inl h1
    clear hno hk ht
    have key : ∀ z W, Below X.heap.size X z → Below z.heap.size z W → StepR bp B s.comma.2 (.bool s.comma.1) X (.returned (.bool false)) W := fun z W h1 h2 => by
      rw [HC.out]
      have h3 := h1.trans (h2.mono h1.size)
      exact ⟨rfl, h.below h3, But.ofBelow (h3.mono hlt.2)⟩
    have key := hide key
    have HX := hide h
    obtain ⟨c1, _, _, _, _, hbp, _⟩ := h.cells
    generalize s.e = e at hcase c1
    rcases hcase with he | ⟨he, h1⟩ | ⟨he, h1, h2⟩
    · have b0 : ((e : Int) != 0) = true := by simpa using he
      clear he h
      go_enter Tryd.func128, Tryd.ntmps128
      go_wp2_with (first | (go_at_call 27; refine HN.out.mono ?_; rintro e1 z ⟨rfl, hz⟩; have x1 := (hz.cell (p := ⟨bp, 1, none⟩) hbp).trans c1; have hbz := Nat.lt_of_lt_of_le hbp hz.size))
      go_ret
      exact key.out _ _ hz ((Below.refl _ _).alloc (Nat.le_refl _) _)
    · have b0 : ((e : Int) != 0) = false := by simpa using he
      have b1 : ((tk : Int) != 4) = true := by simpa using h1
      clear he h h1
      go_enter Tryd.func128, Tryd.ntmps128
      go_wp2_with (first | (go_at_call 27; refine HN.out.mono ?_; rintro e1 z ⟨rfl, hz⟩; have x1 := (hz.cell (p := ⟨bp, 1, none⟩) hbp).trans c1; have hbz := Nat.lt_of_lt_of_le hbp hz.size))
      go_ret
      exact key.out _ _ hz ((Below.refl _ _).alloc (Nat.le_refl _) _)
    · have b0 : ((e : Int) != 0) = false := by simpa using he
      have b1 : ((tk : Int) != 4) = false := by simpa using h1
      have b2 : (tt.toList == [44]) = false := by rw [lit_is]; simpa using h2
      clear he h h1 h2
      go_enter Tryd.func128, Tryd.ntmps128
      go_wp2_with (first | (go_at_call 27; refine HN.out.mono ?_; rintro e1 z ⟨rfl, hz⟩; have x1 := (hz.cell (p := ⟨bp, 1, none⟩) hbp).trans c1; have hbz := Nat.lt_of_lt_of_le hbp hz.size))
      go_ret
      exact key.out _ _ hz ((Below.refl _ _).alloc (Nat.le_refl _) _)
  · simp only [not_or, Decidable.not_not] at hno
    obtain ⟨he, rfl, rfl⟩ := hno
    have HC := hide (show s.comma = (true, (s.take 4 []).2) by unfold PS.comma; rw [if_neg (by rw [hk, ht]; simp [he])])
    obtain ⟨c1, _, _, _, _, hbp, _⟩ := h.cells
    rw [he] at c1
    have HX := hide h
    clear he hk ht h
    go_enter Tryd.func128, Tryd.ntmps128
    go_wp2_with (first
      | (go_at_call 27; refine HN.out.mono ?_; rintro e1 z ⟨rfl, hz⟩; have x1 := (hz.cell (p := ⟨bp, 1, none⟩) hbp).trans c1; have hbz := Nat.lt_of_lt_of_le hbp hz.size)
      | (go_at_call 57; refine (take_st 4 none 0 [] _ (PSt.below (HX.out.below hz) ((Below.refl _ _).alloc (Nat.le_refl _) _)) (by decide) (strs_none _ _) (by decide)).mono ?_; rintro e2 y ⟨rfl, hy, hby⟩))
    go_ret
    rw [HC.out]
    exact ⟨rfl, hy, (But.ofBelow ((hz.mono hlt.2).alloc (Nat.le_trans hlt.2 hz.size) _)).trans (hby.mono (by simp; exact Nat.le_trans hlt.2 (Nat.le_succ_of_le hz.size)))⟩
theorem take_sx {bp B : Nat} {s : PS} (q : Int) (A : Option Addr) (c2 : Nat) (tx : List ByteArray) (X : World) (h : PSt X bp B s) (hq : q ≠ 0) (hA : Strs X X.heap.size A tx) (htl : tx.length ≤ 9223372036854775807) :
    Calls Tryd.prog 57 #[.pointer (some ⟨bp, 0, none⟩), .int .i64 q, .slice A tx.length c2] X fun ee X' => ee = .returned (.agg #[.int .i64 (s.take q tx).1.kind, .string (s.take q tx).1.text, .int .i64 (s.take q tx).1.n, .int .i64 (s.take q tx).1.pos]) ∧ PSt X' bp B (s.take q tx).2 ∧ But bp X.heap.size X X' := take_st q A c2 tx X h hq hA htl

theorem field_kind (a : Int) (x : ByteArray) (n q : Int) (W : World) : (Instr.field 33 (.agg #[.int .i64 a, .string x, .int .i64 n, .int .i64 q]) 0).run Tryd.prog W = .ok (.int .i64 a) W := by kernel_rfl
theorem field_text (a : Int) (x : ByteArray) (n q : Int) (W : World) : (Instr.field 33 (.agg #[.int .i64 a, .string x, .int .i64 n, .int .i64 q]) 1).run Tryd.prog W = .ok (.string x) W := by kernel_rfl
theorem field_n (a : Int) (x : ByteArray) (n q : Int) (W : World) : (Instr.field 33 (.agg #[.int .i64 a, .string x, .int .i64 n, .int .i64 q]) 2).run Tryd.prog W = .ok (.int .i64 n) W := by kernel_rfl
set_option maxRecDepth 100000 in
set_option maxHeartbeats 2000000 in
theorem name_st {bp B : Nat} {s : PS} (X : World) (h : PSt X bp B s) :
    Calls Tryd.prog 111 #[.pointer (some ⟨bp, 0, none⟩)] X (StepR bp B s.name (.tuple #[]) X) := by
  have HT := hide (take_sx 1 none 0 [] X h (by decide) (strs_none _ _) (by decide))
  have HS := hide (show s.name = { (s.take 1 []).2 with d := { (s.take 1 []).2.d with name := (s.take 1 []).1.text } } from rfl)
  have hlt := h.bp_lt
  clear h
  generalize s.take 1 [] = r at HT HS
  have hfd := field_text r.1.kind r.1.text r.1.n r.1.pos
  go_enter Tryd.func111, Tryd.ntmps111
  go_wp2_with (first | (go_at_call 57; refine HT.out.mono ?_; rintro e2 y ⟨rfl, hy, hby⟩; have hc := hy.cells; have x3 := hc.2.2.1; have hbpy := hc.2.2.2.2.2.1; have f3 := hc.2.2.2.2.2.2 3; clear hc))
  go_end0
  rw [HS.out]
  exact ⟨rfl, hy.set_name _, (hby.mono hlt.2).trans (But.set_ _ _ _)⟩

set_option maxHeartbeats 2000000 in
theorem always_st {bp B : Nat} {s : PS} (X : World) (h : PSt X bp B s) :
    Calls Tryd.prog 115 #[.pointer (some ⟨bp, 0, none⟩)] X (StepR bp B s.always (.tuple #[]) X) := by
  have HN := hide (next_st X h)
  have hlt := h.bp_lt
  generalize hk : s.next.kind = tk at HN
  generalize ht : s.next.text = tt at HN
  generalize s.next.n = tn at HN
  generalize s.next.pos = tp at HN
  by_cases hyes : s.e = 0 ∧ tk = 2 ∧ tt = (⟨#[97, 108, 119, 97, 121, 115]⟩ : ByteArray)
  · obtain ⟨he, rfl, rfl⟩ := hyes
    have HC := hide (show s.always = { (s.take 2 []).2 with d := { (s.take 2 []).2.d with always := true } } by unfold PS.always; rw [if_pos ⟨he, hk, ht⟩])
    obtain ⟨c1, _, _, _, _, hbp, _⟩ := h.cells
    rw [he] at c1
    have HX := hide h
    clear he hk ht h
    go_enter Tryd.func115, Tryd.ntmps115
    go_wp2_with (first
      | (go_at_call 27; refine HN.out.mono ?_; rintro e1 z ⟨rfl, hz⟩; have x1 := (hz.cell (p := ⟨bp, 1, none⟩) hbp).trans c1; have hbz := Nat.lt_of_lt_of_le hbp hz.size)
      | (go_at_call 57; refine (take_sx 2 none 0 [] _ (PSt.below (HX.out.below hz) ((Below.refl _ _).alloc (Nat.le_refl _) _)) (by decide) (strs_none _ _) (by decide)).mono ?_; rintro e2 y ⟨rfl, hy, hby⟩; have hc := hy.cells; have x7 := hc.2.2.2.2.1; have hbpy := hc.2.2.2.2.2.1; have f7 := hc.2.2.2.2.2.2 7; clear hc))
    go_end0
    rw [HC.out]
    exact ⟨rfl, hy.set_always _, ((But.ofBelow ((hz.mono hlt.2).alloc (Nat.le_trans hlt.2 hz.size) _)).trans (hby.mono (by simp; exact Nat.le_trans hlt.2 (Nat.le_succ_of_le hz.size)))).trans (But.set_ _ _ _)⟩
  · have HC := hide (show s.always = s by unfold PS.always; rw [if_neg (by rw [hk, ht]; exact hyes)])
    have hcase : s.e ≠ 0 ∨ (s.e = 0 ∧ tk ≠ 2) ∨ (s.e = 0 ∧ tk = 2 ∧ tt ≠ (⟨#[97, 108, 119, 97, 121, 115]⟩ : ByteArray)) := by
      by_cases h1 : s.e = 0
      · by_cases h2 : tk = 2
        · exact .inr (.inr ⟨h1, h2, fun h => hyes ⟨h1, h2, h⟩⟩)
        · exact .inr (.inl ⟨h1, h2⟩)
      · exact .inl h1
    clear hyes hk ht
    have key : ∀ z W, Below X.heap.size X z → Below z.heap.size z W → StepR bp B s.always (.tuple #[]) X (.returned (.tuple #[])) W := fun z W h1 h2 => by
      rw [HC.out]
      have h3 := h1.trans (h2.mono h1.size)
      exact ⟨rfl, h.below h3, But.ofBelow (h3.mono hlt.2)⟩
    have key := hide key
    obtain ⟨c1, _, _, _, _, hbp, _⟩ := h.cells
    generalize s.e = e at hcase c1
    rcases hcase with he | ⟨he, h1⟩ | ⟨he, h1, h2⟩
    · have b0 : ((e : Int) == 0) = false := by simpa using he
      clear he h
      go_enter Tryd.func115, Tryd.ntmps115
      go_wp2_with (first | (go_at_call 27; refine HN.out.mono ?_; rintro e1 z ⟨rfl, hz⟩; have x1 := (hz.cell (p := ⟨bp, 1, none⟩) hbp).trans c1; have hbz := Nat.lt_of_lt_of_le hbp hz.size))
      go_end0
      exact key.out _ _ hz ((Below.refl _ _).alloc (Nat.le_refl _) _)
    · have b0 : ((e : Int) == 0) = true := by simpa using he
      have b1 : ((tk : Int) == 2) = false := by simpa using h1
      clear he h h1
      go_enter Tryd.func115, Tryd.ntmps115
      go_wp2_with (first | (go_at_call 27; refine HN.out.mono ?_; rintro e1 z ⟨rfl, hz⟩; have x1 := (hz.cell (p := ⟨bp, 1, none⟩) hbp).trans c1; have hbz := Nat.lt_of_lt_of_le hbp hz.size))
      go_end0
      exact key.out _ _ hz ((Below.refl _ _).alloc (Nat.le_refl _) _)
    · have b0 : ((e : Int) == 0) = true := by simpa using he
      have b1 : ((tk : Int) == 2) = true := by simpa using h1
      have b2 : (tt.toList == [97, 108, 119, 97, 121, 115]) = false := by rw [lit_is]; simpa using h2
      clear he h h1 h2
      go_enter Tryd.func115, Tryd.ntmps115
      go_wp2_with (first | (go_at_call 27; refine HN.out.mono ?_; rintro e1 z ⟨rfl, hz⟩; have x1 := (hz.cell (p := ⟨bp, 1, none⟩) hbp).trans c1; have hbz := Nat.lt_of_lt_of_le hbp hz.size))
      go_end0
      exact key.out _ _ hz ((Below.refl _ _).alloc (Nat.le_refl _) _)

set_option maxHeartbeats 2000000 in
/-- the closure that reads a key word: its two captured variables lie in cells -/
theorem word_st {bp B b1 b2 : Nat} {s : PS} (w : ByteArray) (X : World) (h : PSt X bp B s) (h1 : X.cell? ⟨b1, 0, none⟩ = some (.pointer (some ⟨bp, 0, none⟩))) (h2 : X.cell? ⟨b2, 0, none⟩ = some (.string w)) :
    Calls Tryd.prog 127 #[.pointer (some ⟨b1, 0, none⟩), .pointer (some ⟨b2, 0, none⟩)] X (StepR bp B (s.word w) (.tuple #[]) X) := by
  have hX := h.below ((Below.refl X.heap.size X).alloc (Nat.le_refl _) (.cells #[.string w] 9))
  have hA := Strs.newRow X 9 [w]
  have HT := hide (take_sx 2 (some ⟨X.heap.size, 0, none⟩) 1 [w] _ hX (by decide) (hA.more (by simp)) (by simp))
  have HS := hide (show s.word w = (s.take 2 [w]).2 from rfl)
  have hlt := h.bp_lt
  clear h hA hX
  generalize s.take 2 [w] = r at HT HS
  go_enter Tryd.func127, Tryd.ntmps127
  go_wp2_with (first | (go_at_call 57; refine HT.out.mono ?_; rintro e2 y ⟨rfl, hy, hby⟩))
  go_end0
  rw [HS.out]
  exact ⟨rfl, hy, (But.ofBelow ((Below.refl _ _).alloc hlt.2 _)).trans (hby.mono (by simp; omega))⟩

theorem PSt.rows {w : World} {bp B : Nat} {s : PS} (h : PSt w bp B s) : ∃ rv nv, w.cell? ⟨bp, 4, none⟩ = some rv ∧ w.cell? ⟨bp, 5, none⟩ = some nv ∧ OwnS B w rv s.d.refs ∧ OwnI B w nv s.d.nums ∧ Sep rv nv := by
  obtain ⟨b, off, c, rv, nv, h1, h2, h3, h4, h5, h6, h7, h8, h9, h10, h11⟩ := h
  obtain ⟨c0, c1, c2, c3, c4, c5, c6, c7, hb⟩ := h1.cells
  exact ⟨rv, nv, c4, c5, h6, h7, h11⟩
/-- take, told with the rows as they stand -/
theorem take_rows {bp B : Nat} {s : PS} {rv nv : Value} (q : Int) (A : Option Addr) (c2 : Nat) (tx : List ByteArray) (X : World) (h : PSt X bp B s) (h4 : X.cell? ⟨bp, 4, none⟩ = some rv) (h5 : X.cell? ⟨bp, 5, none⟩ = some nv) (hq : q ≠ 0) (hA : Strs X X.heap.size A tx) (htl : tx.length ≤ 9223372036854775807) :
    Calls Tryd.prog 57 #[.pointer (some ⟨bp, 0, none⟩), .int .i64 q, .slice A tx.length c2] X fun ee X' => ee = .returned (.agg #[.int .i64 (s.take q tx).1.kind, .string (s.take q tx).1.text, .int .i64 (s.take q tx).1.n, .int .i64 (s.take q tx).1.pos]) ∧ PSt X' bp B (s.take q tx).2 ∧ But bp X.heap.size X X' ∧ X'.cell? ⟨bp, 4, none⟩ = some rv ∧ X'.cell? ⟨bp, 5, none⟩ = some nv := by
  obtain ⟨b, off, c, rv', nv', h1, h2, h3, h4', h5', h6, h7, h8, h9, h10, h11⟩ := h
  obtain ⟨x0, x1, x2, x3, x4, x5, x6, x7, xb⟩ := h1.cells
  obtain rfl : rv' = rv := Option.some.inj (x4.symm.trans h4)
  obtain rfl : nv' = nv := Option.some.inj (x5.symm.trans h5)
  obtain ⟨toks, e, d⟩ := s
  have hA2 := take_aft ⟨toks, e, d⟩ hq tx
  have hd := take_d ⟨toks, e, d⟩ q tx
  simp only at h1 h2 h5' h6 h7 h8
  cases toks with
  | nil => exact absurd rfl h8.ne
  | cons t ts =>
    refine (take_any d q A c2 tx t ts X h1 h5' h2 h3 (by omega) h8 hq hA htl).mono fun ee X' h => ?_
    have h' := h
    obtain ⟨_, ⟨off', c', g1, _, _⟩, _⟩ := h'
    obtain ⟨y0, y1, y2, y3, y4, y5, y6, y7, yb⟩ := g1.cells
    obtain ⟨r1, r2, r3⟩ := PSt.took h (by rw [hd]) (by rw [hd]) (by rw [hd]) (by rw [hd]) h3 h4' (by rw [hd]; exact h6) (by rw [hd]; exact h7) (hA2.2 h8) h9 h10 h11
    exact ⟨r1, r2, r3, y4, y5⟩
theorem PSt.set_refs {w w' : World} {bp B : Nat} {s : PS} {rv v' : Value} {l : List ByteArray} (h : PSt w bp B s) (h4 : w.cell? ⟨bp, 4, none⟩ = some rv) (hg : w.grownBy w' rv.ownBlock) (hv : v'.ownBlock = rv.ownBlock ∨ v'.ownBlock = some w.heap.size) (hO : OwnS B w' v' l) : PSt (w'.setCell ⟨bp, 4, none⟩ v') bp B { s with d := { s.d with refs := l } } := by
  obtain ⟨b, off, c, rv', nv, h1, h2, h3, h4', h5, h6, h7, h8, h9, h10, h11⟩ := h
  obtain ⟨x0, x1, x2, x3, x4, x5, x6, x7, xb⟩ := h1.cells
  obtain rfl : rv' = rv := Option.some.inj (x4.symm.trans h4)
  have hlo := h6.lt
  have hln := h7.lt
  have hsep : nv.ownBlock = none ∨ nv.ownBlock ≠ rv'.ownBlock := by
    cases hn : nv.ownBlock with
    | none => exact .inl rfl
    | some g => exact .inr fun e => h11 g e.symm hn
  have hS : Sep v' nv := fun g e hn => by
    rcases hv with hv | hv
    · exact h11 g (hv.symm.trans e) hn
    · have := hln g hn
      have e2 := Option.some.inj (hv.symm.trans e)
      omega
  have hP : PB w' bp b off c s.toks.length s.e s.d.kind s.d.name rv' nv s.d.by_ s.d.always := Blk.grown h1 hg (fun e => by have := hlo _ e.symm; omega)
  have hB : But bp w'.heap.size w' (w'.setCell ⟨bp, 4, none⟩ v') := But.set_ w' 4 _
  have hT : Toks w' w'.heap.size (some ⟨b, off, none⟩) s.toks := by
    refine Reads.more (B := w.heap.size) ⟨h5.1, fun hn => ?_⟩ hg.size
    obtain ⟨ad, e, hlt, hc⟩ := h5.2 hn
    refine ⟨ad, e, hlt, fun j u hu => (World.cell?_of_block (hg.block _ (by rw [block_of_add]; exact hlt) (fun e2 => ?_))).trans (hc j u hu)⟩
    injection e with e
    subst e
    rw [block_of_add] at e2
    have := hlo _ e2.symm
    simp only at this
    omega
  exact ⟨b, off, c, v', nv, Blk.set_ hP 4 _, h2, h3, h4', (Reads.but hT (fun ad e => by injection e with e; subst e; exact h3) hB).more hB.size, hO.but hB h9, (h7.kept hg hsep).but hB h9, h8, h9, by have := hg.size; have := hB.size; omega, hS⟩
theorem PSt.set_nums {w w' : World} {bp B : Nat} {s : PS} {nv v' : Value} {l : List Int} (h : PSt w bp B s) (h4 : w.cell? ⟨bp, 5, none⟩ = some nv) (hg : w.grownBy w' nv.ownBlock) (hv : v'.ownBlock = nv.ownBlock ∨ v'.ownBlock = some w.heap.size) (hO : OwnI B w' v' l) : PSt (w'.setCell ⟨bp, 5, none⟩ v') bp B { s with d := { s.d with nums := l } } := by
  obtain ⟨b, off, c, rv, nv', h1, h2, h3, h4', h5, h6, h7, h8, h9, h10, h11⟩ := h
  obtain ⟨x0, x1, x2, x3, x4, x5, x6, x7, xb⟩ := h1.cells
  obtain rfl : nv' = nv := Option.some.inj (x5.symm.trans h4)
  have hlo := h7.lt
  have hln := h6.lt
  have hsep : rv.ownBlock = none ∨ rv.ownBlock ≠ nv'.ownBlock := by
    cases hn : rv.ownBlock with
    | none => exact .inl rfl
    | some g => exact .inr fun e => h11 g hn e.symm
  have hS : Sep rv v' := fun g hn e => by
    rcases hv with hv | hv
    · exact h11 g hn (hv.symm.trans e)
    · have := hln g hn
      have e2 := Option.some.inj (hv.symm.trans e)
      omega
  have hP : PB w' bp b off c s.toks.length s.e s.d.kind s.d.name rv nv' s.d.by_ s.d.always := Blk.grown h1 hg (fun e => by have := hlo _ e.symm; omega)
  have hB : But bp w'.heap.size w' (w'.setCell ⟨bp, 5, none⟩ v') := But.set_ w' 5 _
  have hT : Toks w' w'.heap.size (some ⟨b, off, none⟩) s.toks := by
    refine Reads.more (B := w.heap.size) ⟨h5.1, fun hn => ?_⟩ hg.size
    obtain ⟨ad, e, hlt, hc⟩ := h5.2 hn
    refine ⟨ad, e, hlt, fun j u hu => (World.cell?_of_block (hg.block _ (by rw [block_of_add]; exact hlt) (fun e2 => ?_))).trans (hc j u hu)⟩
    injection e with e
    subst e
    rw [block_of_add] at e2
    have := hlo _ e2.symm
    simp only at this
    omega
  exact ⟨b, off, c, rv, v', Blk.set_ hP 5 _, h2, h3, h4', (Reads.but hT (fun ad e => by injection e with e; subst e; exact h3) hB).more hB.size, (h6.kept hg hsep).but hB h9, hO.but hB h9, h8, h9, by have := hg.size; have := hB.size; omega, hS⟩
end Go.Proofs.YtanhkeeifnimgaaDoor
