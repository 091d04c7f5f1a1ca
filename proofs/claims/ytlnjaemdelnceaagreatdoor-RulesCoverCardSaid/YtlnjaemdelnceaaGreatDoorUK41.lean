/- A part of the claim: see its last text. -/
import Derived.Test.YtlnjaemdelnceaaGreatDoorUK28
import Derived.Test.YtlnjaemdelnceaaGreatDoorUK36
import Derived.Test.YtlnjaemdelnceaaGreatDoorUK29
import Derived.Test.YtlnjaemdelnceaaGreatDoorUK30
import Derived.Test.YtlnjaemdelnceaaGreatDoorUK15
import Derived.Deep.RegionHeld3
import Derived.BigQuiet

set_option maxRecDepth 100000
set_option maxHeartbeats 16000000
namespace Go.Proofs.YtlnjaemdelnceaaGreatDoor
open Go Go.RowKit Go.Proofs
theorem OwnF.ne {B g : Nat} {w : World} {v : Value} {l : List (Int × Int)} {T : TypeId} {cs : Array Value} (h : OwnF B w v l) (hb : Blk w g T cs) (hne : T ≠ 37) : v.ownBlock ≠ some g := by
 rintro e
 rcases h.2 with ⟨rfl, _⟩ | ⟨g2, cap, cur, rfl, _, hh, _⟩
 · cases e
 · obtain rfl : g2 = g := Option.some.inj e
   rw [Blk] at hb
   have := hb.symm.trans hh
   simp at this
   exact hne this.2
theorem OwnF.lt {B : Nat} {w : World} {v : Value} {l : List (Int × Int)} (h : OwnF B w v l) : ∀ k, v.ownBlock = some k → B ≤ k ∧ k < w.heap.size := World.ownsRow.lt h
theorem OwnF.below {B : Nat} {w w' : World} {v : Value} {l : List (Int × Int)} (h : OwnF B w v l) (hb : Below w.heap.size w w') : OwnF B w' v l := by
 refine ⟨h.1, ?_⟩
 rcases h.2 with h0 | ⟨g, cap, cur, e, hB, hh, h4⟩
 · exact .inl h0
 · exact .inr ⟨g, cap, cur, e, hB, Blk.below hh hb (Blk.lt hh), h4⟩
theorem OwnF.one (w : World) {B : Nat} (hB : B ≤ w.heap.size) (x : Int × Int) : OwnF B (w.alloc (.cells #[.int .i64 x.1, .int .i64 x.2] 37)) (.slice (some ⟨w.heap.size, 0, none⟩) 1 1) [x] := by
 have := World.ownsRow_lit (e := 37) (size := 2) w #[.int .i64 x.1, .int .i64 x.2] 1 hB (by decide) (by simp)
 simpa [OwnF, unitCells] using this
theorem append_fail {ops : Array Oper} {rest : List Oper} {o : Oper} {a : Act} {Q : Exit → Act → World → Prop} {w : World} (hgd : o.guard = none) (s x : Operand)
    (ho : o.op = .call { callee := .builtin .append, args := #[s, x], argTypes := #[42, 42] })
    (base : Nat) (v : Value) (l : List (Int × Int)) (hs : a.eval s = v) (hown : OwnF base w v l)
    (B : Nat) (A : Option Addr) (c : Nat) (b : Int × Int) (hx : a.eval x = .slice A 1 c) (hr : Reads w B 2 A 1 (unitCells [b]))
    (hlen : l.length + 1 ≤ 1000000) (hbase : base ≤ w.heap.size)
    (h : ∀ v' w', OwnF base w' v' (l ++ [b]) → w.grownBy w' v.ownBlock → wpList Tryz.prog ops Q rest (a.put o.dst v') w') : wpList Tryz.prog ops Q (o :: rest) a w := by
 obtain ⟨i0, hi, hz0, hz1, hz2⟩ := info_parts infoF
 refine wpList_plain hgd fun _ hK => wp_append_any w s x 42 ho base 37 i0 _ 2 16 Tryz.underlying42 hi hz0 hz1 hz2 rfl (by omega) v l.length (unitCells l) hs hown B A 1 c (unitCells [b]) hx hr (unitCells_one [b]) (by unfold maxLen; omega) (by omega) hbase
  fun v' w' h2 h3 _ => hK _ _ (h v' w' ?_ h3)
 unfold OwnF; rw [unitCells_append, List.length_append]; exact h2
theorem newFail (w : World) (a b : Int) : Reads (w.alloc (.cells #[.int .i64 a, .int .i64 b] 37)) (w.heap.size + 1) 2 (some ⟨w.heap.size, 0, none⟩) 1 (unitCells [(a, b)]) :=
 ⟨rfl, fun _ => ⟨_, rfl, by simp, fun j u hu => by rw [add_none, Nat.zero_add, cell?_new]; simpa [unitCells] using hu⟩⟩
def bitN (k : Nat) : Int := if k = 0 then 1 else if k = 1 then 2 else 4
theorem and_pow (n j : Nat) : n &&& 2 ^ j = (n.testBit j).toNat * 2 ^ j := by
 apply Nat.eq_of_testBit_eq
 intro i
 rw [Nat.testBit_and, Nat.testBit_two_pow]
 cases h : n.testBit j
 · simp; intro h1 h2; subst h2; rw [h] at h1; cases h1
 · simp [Nat.testBit_two_pow]; intro e; subst e; exact h
theorem bit_and (f : Int) (k : Nat) (hk : k < 3) : (bits BinOp.and IntKind.i64 f (bitN k) ≠ 0) ↔ (f / 2 ^ k) % 2 = 1 := by
 have main : ∀ (j : Nat) (d : Int), (BitVec.ofInt 64 d).toNat = 2 ^ j → j < 3 → (bits BinOp.and IntKind.i64 f d ≠ 0 ↔ (f / 2 ^ j) % 2 = 1) := fun j d hd hj => by
  have e : (BitVec.ofInt 64 f &&& BitVec.ofInt 64 d).toNat = ((f % 2 ^ 64).toNat.testBit j).toNat * 2 ^ j := by
   rw [BitVec.toNat_and, BitVec.toNat_ofInt, hd, and_pow]
   rfl
  have hb : (f % 2 ^ 64).toNat.testBit j = decide ((f / 2 ^ j) % 2 = 1) := by
   rw [Nat.testBit_eq_decide_div_mod_eq, decide_eq_decide]
   rcases (by omega : j = 0 ∨ j = 1 ∨ j = 2) with rfl | rfl | rfl <;> simp <;> omega
  show IntKind.i64.wrap ((BitVec.ofInt 64 f &&& BitVec.ofInt 64 d).toNat : Int) ≠ 0 ↔ _
  rw [e, hb, IntKind.wrap_i64]
  by_cases h : f / 2 ^ j % 2 = 1
  · rw [decide_eq_true h]
    rcases (by omega : j = 0 ∨ j = 1 ∨ j = 2) with rfl | rfl | rfl <;> exact iff_of_true (by decide) h
  · rw [decide_eq_false h]
    rcases (by omega : j = 0 ∨ j = 1 ∨ j = 2) with rfl | rfl | rfl <;> exact iff_of_false (by decide) h
 rcases (by omega : k = 0 ∨ k = 1 ∨ k = 2) with rfl | rfl | rfl
 · exact main 0 1 rfl (by omega)
 · exact main 1 2 rfl (by omega)
 · exact main 2 4 rfl (by omega)
structure AlW (w : World) (h : MH) (m : Mod) (W : World) : Prop where
 b : Below w.heap.size w W
 mo : Blk W w.heap.size 29 #[.slice h.s m.sT.length h.sc, .slice h.f m.fT.length h.fc, .slice h.r m.rT.length h.rc, .slice h.m m.mT.length h.mc, .slice h.l m.lT.length h.lc, .slice h.i m.iT.length h.ic, .int .i64 m.dT, .int .i64 m.oT, .int .i64 m.vT, .int .i64 m.aT, .slice h.u m.uT.length h.uc]
 bi : Blk W (w.heap.size + 1 + 1) 3 #[.int .i64 1, .int .i64 2, .int .i64 4]
 ki : Blk W (w.heap.size + 1 + 1 + 1) 3 #[.int .i64 1, .int .i64 2, .int .i64 3]
theorem AlW.grow {w : World} {h : MH} {m : Mod} {W W' : World} (s : AlW w h m W) (hb : Below W.heap.size W W') : AlW w h m W' := ⟨s.b.trans (hb.mono s.b.size), s.mo.below hb s.mo.lt, s.bi.below hb s.bi.lt, s.ki.below hb s.ki.lt⟩
theorem AlW.drew {w : World} {h : MH} {m : Mod} {W : World} (s : AlW w h m W) : AlW w h m W.drew := s.grow (Below.refl _ W).drew
theorem AlW.appended {w : World} {h : MH} {m : Mod} {W W' : World} {v : Value} {l : List (Int × Int)} (s : AlW w h m W) (ho : OwnF w.heap.size W v l) (hg : W.grownBy W' v.ownBlock) : AlW w h m W' :=
 ⟨s.b.grown hg s.b.size (fun g e => (ho.lt g e).1), s.mo.grown hg (fun e => ho.ne s.mo (by decide) e.symm), s.bi.grown hg (fun e => ho.ne s.bi (by decide) e.symm), s.ki.grown hg (fun e => ho.ne s.ki (by decide) e.symm)⟩
theorem AlW.at_ {w : World} {h : MH} {m : Mod} {W : World} (s : AlW w h m W) {k : Nat} (hk : k < 3) : (W.cell? ⟨w.heap.size, 0, none⟩ = some (.slice h.s m.sT.length h.sc) ∧ W.cell? ⟨w.heap.size, 1, none⟩ = some (.slice h.f m.fT.length h.fc) ∧ W.cell? ⟨w.heap.size, 2, none⟩ = some (.slice h.r m.rT.length h.rc) ∧ W.cell? ⟨w.heap.size, 3, none⟩ = some (.slice h.m m.mT.length h.mc) ∧ W.cell? ⟨w.heap.size, 4, none⟩ = some (.slice h.l m.lT.length h.lc) ∧ W.cell? ⟨w.heap.size, 5, none⟩ = some (.slice h.i m.iT.length h.ic) ∧ W.cell? ⟨w.heap.size, 6, none⟩ = some (.int .i64 m.dT) ∧ W.cell? ⟨w.heap.size, 7, none⟩ = some (.int .i64 m.oT) ∧ W.cell? ⟨w.heap.size, 8, none⟩ = some (.int .i64 m.vT) ∧ W.cell? ⟨w.heap.size, 9, none⟩ = some (.int .i64 m.aT) ∧ W.cell? ⟨w.heap.size, 10, none⟩ = some (.slice h.u m.uT.length h.uc)) ∧ W.cell? ⟨w.heap.size + 1 + 1, k, none⟩ = some (.int .i64 (bitN k)) ∧ W.cell? ⟨w.heap.size + 1 + 1 + 1, k, none⟩ = some (.int .i64 ((k : Int) + 1)) := by
 refine ⟨MB.cells s.mo, ?_, ?_⟩
 · rw [s.bi.cell]; have : k = 0 ∨ k = 1 ∨ k = 2 := by omega
   rcases this with rfl | rfl | rfl <;> rfl
 · rw [s.ki.cell]; have : k = 0 ∨ k = 1 ∨ k = 2 := by omega
   rcases this with rfl | rfl | rfl <;> rfl
def AlK (w : World) (h : MH) (m : Mod) (v i : Value) (wr : World) : Prop := ∃ k : Nat, k ≤ 3 ∧ i = .int .i64 k ∧ Hid (OwnF w.heap.size wr v (preF m k 0) ∧ AlW w h m wr)
def AlQ (w : World) (h : MH) (m : Mod) (k : Nat) (v i : Value) (wr : World) : Prop := ∃ q : Nat, (q : Int) ≤ domsI m ((k : Int) + 1) ∧ i = .int .i64 ((q : Int) + 1) ∧ Hid (OwnF w.heap.size wr v (preF m k q) ∧ AlW w h m wr)
theorem preF_stop (m : Mod) (k q : Nat) (h : bitB m k = false) : preF m k q = preF m (k + 1) 0 := by
 rw [← preF_next]
 simp [preF, partF, h]
theorem all21_ref (h : MH) (m : Mod) (l0 : m.mT.length ≤ 100) (l1 : m.rT.length ≤ 100) (l2 : m.fT.length ≤ 100) (l3 : m.sT.length ≤ 100) (w : World) :
    Calls Tryz.prog 40 #[.agg #[.slice h.s m.sT.length h.sc, .slice h.f m.fT.length h.fc, .slice h.r m.rT.length h.rc, .slice h.m m.mT.length h.mc, .slice h.l m.lT.length h.lc, .slice h.i m.iT.length h.ic, .int .i64 m.dT, .int .i64 m.oT, .int .i64 m.vT, .int .i64 m.aT, .slice h.u m.uT.length h.uc]] w (FailsR w (allF m)) := by
 obtain ⟨w0, e0⟩ : ∃ w0, w0 = (((w.alloc (.cells #[.slice h.s m.sT.length h.sc, .slice h.f m.fT.length h.fc, .slice h.r m.rT.length h.rc, .slice h.m m.mT.length h.mc, .slice h.l m.lT.length h.lc, .slice h.i m.iT.length h.ic, .int .i64 m.dT, .int .i64 m.oT, .int .i64 m.vT, .int .i64 m.aT, .slice h.u m.uT.length h.uc] 29)).alloc (.cells #[.int .i64 0, .int .i64 0] 37)).alloc (.cells #[.int .i64 1, .int .i64 2, .int .i64 4] 3)).alloc (.cells #[.int .i64 1, .int .i64 2, .int .i64 3] 3) := ⟨_, rfl⟩
 have HA := hide (show AlW w h m w0 by
  obtain ⟨w1, e1⟩ : ∃ w1, w1 = w.alloc (.cells #[.slice h.s m.sT.length h.sc, .slice h.f m.fT.length h.fc, .slice h.r m.rT.length h.rc, .slice h.m m.mT.length h.mc, .slice h.l m.lT.length h.lc, .slice h.i m.iT.length h.ic, .int .i64 m.dT, .int .i64 m.oT, .int .i64 m.vT, .int .i64 m.aT, .slice h.u m.uT.length h.uc] 29) := ⟨_, rfl⟩
  obtain ⟨w2, e2⟩ : ∃ w2, w2 = w1.alloc (.cells #[.int .i64 0, .int .i64 0] 37) := ⟨_, rfl⟩
  obtain ⟨w3, e3⟩ : ∃ w3, w3 = w2.alloc (.cells #[.int .i64 1, .int .i64 2, .int .i64 4] 3) := ⟨_, rfl⟩
  have s1 : w1.heap.size = w.heap.size + 1 := by rw [e1]; simp
  have s2 : w2.heap.size = w.heap.size + 1 + 1 := by rw [e2]; simp [s1]
  have s3 : w3.heap.size = w.heap.size + 1 + 1 + 1 := by rw [e3]; simp [s2]
  rw [e0, ← e1, ← e2, ← e3]
  refine ⟨?_, ?_, ?_, ?_⟩
  · rw [e3, e2, e1]; exact ((((Below.refl w.heap.size w).alloc (Nat.le_refl _) _).alloc (by simp) _).alloc (by simp <;> omega) _).alloc (by simp <;> omega) _
  · rw [e3, e2, e1]; exact (((Blk.new w _ _).alloc _).alloc _).alloc _
  · rw [e3, ← s2]; exact (Blk.new w2 _ _).alloc _
  · rw [← s3]; exact Blk.new w3 _ _)
 have HO := hide (show OwnF w.heap.size w0 (.slice (some ⟨w.heap.size + 1, 0, none⟩) 1 1) (preF m 0 0) by
  rw [e0, preF_zero]
  have h1 := OwnF.one (w.alloc (.cells #[.slice h.s m.sT.length h.sc, .slice h.f m.fT.length h.fc, .slice h.r m.rT.length h.rc, .slice h.m m.mT.length h.mc, .slice h.l m.lT.length h.lc, .slice h.i m.iT.length h.ic, .int .i64 m.dT, .int .i64 m.oT, .int .i64 m.vT, .int .i64 m.aT, .slice h.u m.uT.length h.uc] 29)) (B := w.heap.size) (by simp) (0, 0)
  rw [World.size_alloc] at h1
  exact h1.below (((Below.refl _ _).alloc (Nat.le_refl _) _).alloc (by simp) _))
 have HDM := hide (fun (k : Nat) W => domains_ref h m ((k : Int) + 1) W)
 have HDB := hide (fun (k : Nat) => (show 0 ≤ domsI m ((k : Int) + 1) ∧ domsI m ((k : Int) + 1) ≤ 100 from ⟨domsI_nonneg _ _, by unfold domsI; repeat' split
                                                                                                                                 all_goals omega⟩))
 have HE := hide e0
 clear e0
 go_enter Tryz.func40, Tryz.ntmps40
 go_wp2_with fail
 rw [← HE.out]
 go_loopw [3, 6] (fun v i wr => AlK w h m v i wr) (fun _ i _ => 3 - (intOf i).toNat)
 case atStart => exact ⟨0, Nat.zero_le _, rfl, HO.out, HA.out⟩
 case round =>
  clear HO HA
  obtain ⟨k, hk, rfl, hS⟩ := hrel
  by_cases hlt : k < 3
  · have HLK := hide hlt
    have hkI : (k : Int) < 3 := by omega
    obtain ⟨D, hD⟩ : ∃ D : Nat, domsI m ((k : Int) + 1) = (D : Int) := ⟨(domsI m ((k : Int) + 1)).toNat, by have := (HDB.out k).1; omega⟩
    have HDD := hide hD
    have hD100 : D ≤ 100 := by have := (HDB.out k).2; omega
    have HDM := hide (HDM.out k)
    rw [hD] at HDM
    have HBA := hide (bit_and m.aT k hlt)
    clear hD
    go_wp2_with fail
    go_loopw [3, 7] (fun v i wr => AlQ w h m k v i wr) (fun _ i _ => D + 1 - (intOf i).toNat)
    case atStart => exact ⟨0, by rw [HDD.out]; omega, rfl, hS⟩
    case round =>
     clear hS
     obtain ⟨q, hq, rfl, hS⟩ := hrel
     rw [HDD.out] at hq
     have HS := hide hS.out.2
     obtain ⟨⟨a0, a1, a2, a3, a4, a5, a6, a7, a8, a9, a10⟩, b0, k0⟩ := HS.out.at_ hlt
     have al := HS.out.mo.lt
     have bl := HS.out.bi.lt
     have kl := HS.out.ki.lt
     have hq100 : q ≤ 100 := by omega
     have hk0 : (0 : Int) ≤ (k : Int) := by omega
     by_cases hqD : q < D
     · have hqI : (q : Int) + 1 ≤ (D : Int) := by omega
       cases eb : bitB m k
       · have hz : (bits BinOp.and IntKind.i64 m.aT (bitN k) == 0) = true := by
           have := HBA.out
           simp only [bitB, decide_eq_false_iff_not] at eb
           simpa using fun h2 => eb (this.1 h2)
         have HP := hide (preF_stop m k q eb)
         clear eb
         go_wp2_with fail
         go_region_held3 (fun W => ((W.cell? ⟨w.heap.size, 0, none⟩ = some (.slice h.s m.sT.length h.sc) ∧ W.cell? ⟨w.heap.size, 1, none⟩ = some (.slice h.f m.fT.length h.fc) ∧ W.cell? ⟨w.heap.size, 2, none⟩ = some (.slice h.r m.rT.length h.rc) ∧ W.cell? ⟨w.heap.size, 3, none⟩ = some (.slice h.m m.mT.length h.mc) ∧ W.cell? ⟨w.heap.size, 4, none⟩ = some (.slice h.l m.lT.length h.lc) ∧ W.cell? ⟨w.heap.size, 5, none⟩ = some (.slice h.i m.iT.length h.ic) ∧ W.cell? ⟨w.heap.size, 6, none⟩ = some (.int .i64 m.dT) ∧ W.cell? ⟨w.heap.size, 7, none⟩ = some (.int .i64 m.oT) ∧ W.cell? ⟨w.heap.size, 8, none⟩ = some (.int .i64 m.vT) ∧ W.cell? ⟨w.heap.size, 9, none⟩ = some (.int .i64 m.aT) ∧ W.cell? ⟨w.heap.size, 10, none⟩ = some (.slice h.u m.uT.length h.uc)) ∧ W.cell? ⟨w.heap.size + 1 + 1, k, none⟩ = some (.int .i64 (bitN k)) ∧ W.cell? ⟨w.heap.size + 1 + 1 + 1, k, none⟩ = some (.int .i64 ((k : Int) + 1))) ∧ AlW w h m W)
          ((with_reducible (first | (go_keep; done) | exact ⟨AlW.at_ HS.out.drew HLK.out, HS.out.drew⟩ | exact ⟨AlW.at_ c7 HLK.out, c7⟩ | (have hH := (by assumption : _ ∧ AlW _ _ _ _); exact ⟨AlW.at_ (AlW.drew hH.2) HLK.out, AlW.drew hH.2⟩))))
          (((with_reducible refine (HDM.out _).mono ?_); rintro e w5 ⟨rfl, hb5⟩; have c7 := AlW.grow HS.out.drew hb5))
         have HO5 := hide (hS.out.1.below ((Below.refl _ _).drew.trans hb5))
         go_wp2_with fail
         go_roundw
         case rel => exact ⟨k + 1, by have := HLK.out; omega, by go_num, hide ⟨by rw [← HP.out]; exact HO5.out, c7⟩⟩
         case measure => have := HLK.out; simp [intOf]; omega
       · have hz : (bits BinOp.and IntKind.i64 m.aT (bitN k) == 0) = false := by
           have := HBA.out
           simp only [bitB, decide_eq_true_eq] at eb
           simpa using this.2 eb
         have HP := hide (preF_yes m k q eb)
         have hpl := preF_len m 100 (fun i => by have := domsI_nonneg m i; unfold domsI; repeat' split
                                                 all_goals omega) k q (by omega) hq100
         obtain ⟨L, hL⟩ : ∃ L, L = preF m k q := ⟨_, rfl⟩
         rw [← hL] at hS HP hpl
         clear eb hL
         go_wp2_with fail
         go_region_held3 (fun W => ((W.cell? ⟨w.heap.size, 0, none⟩ = some (.slice h.s m.sT.length h.sc) ∧ W.cell? ⟨w.heap.size, 1, none⟩ = some (.slice h.f m.fT.length h.fc) ∧ W.cell? ⟨w.heap.size, 2, none⟩ = some (.slice h.r m.rT.length h.rc) ∧ W.cell? ⟨w.heap.size, 3, none⟩ = some (.slice h.m m.mT.length h.mc) ∧ W.cell? ⟨w.heap.size, 4, none⟩ = some (.slice h.l m.lT.length h.lc) ∧ W.cell? ⟨w.heap.size, 5, none⟩ = some (.slice h.i m.iT.length h.ic) ∧ W.cell? ⟨w.heap.size, 6, none⟩ = some (.int .i64 m.dT) ∧ W.cell? ⟨w.heap.size, 7, none⟩ = some (.int .i64 m.oT) ∧ W.cell? ⟨w.heap.size, 8, none⟩ = some (.int .i64 m.vT) ∧ W.cell? ⟨w.heap.size, 9, none⟩ = some (.int .i64 m.aT) ∧ W.cell? ⟨w.heap.size, 10, none⟩ = some (.slice h.u m.uT.length h.uc)) ∧ W.cell? ⟨w.heap.size + 1 + 1, k, none⟩ = some (.int .i64 (bitN k)) ∧ W.cell? ⟨w.heap.size + 1 + 1 + 1, k, none⟩ = some (.int .i64 ((k : Int) + 1))) ∧ AlW w h m W)
          ((with_reducible (first | (go_keep; done) | exact ⟨AlW.at_ HS.out.drew HLK.out, HS.out.drew⟩ | exact ⟨AlW.at_ c7 HLK.out, c7⟩ | (have hH := (by assumption : _ ∧ AlW _ _ _ _); exact ⟨AlW.at_ (AlW.drew hH.2) HLK.out, AlW.drew hH.2⟩))))
          (((with_reducible refine (HDM.out _).mono ?_); rintro e w5 ⟨rfl, hb5⟩; have c7 := AlW.grow HS.out.drew hb5))
         have HO5 := hide (hS.out.1.below ((Below.refl _ _).drew.trans hb5))
         obtain ⟨-, -, z0⟩ := AlW.at_ c7 HLK.out
         have zl := c7.ki.lt
         have hb6 : Below w5.heap.size w5 (w5.alloc (.cells #[.int .i64 ((k : Int) + 1), .int .i64 ((q : Int) + 1)] 37)) := (Below.refl _ _).alloc (Nat.le_refl _) _
         have HS6 := hide (c7.grow hb6)
         have HO6 := hide (HO5.out.below hb6)
         have HR6 := hide (newFail w5 ((k : Int) + 1) ((q : Int) + 1))
         have hll : L.length + 1 ≤ 1000000 := by omega
         clear c7 hb5 hb6
         go_wp2_with (at_builtin; refine append_fail rfl _ _ rfl w.heap.size _ L rfl HO6.out _ _ _ ((k : Int) + 1, (q : Int) + 1) rfl HR6.out hll HS6.out.b.size ?_; intro v3 w6 ho3 hg3; have ho3 := hide ho3; have hg3 := hide hg3)
         have hs7 := HS6.out.appended HO6.out hg3.out
         go_roundw
         case rel => exact ⟨q + 1, by rw [HDD.out]; omega, by go_num, hide ⟨by rw [HP.out]; exact ho3.out, hs7⟩⟩
         case measure => simp [intOf]; omega
     · obtain rfl : q = D := by omega
       have HP := hide (preF_next m k)
       rw [HDD.out] at HP
       have hqI : ¬ ((q : Int) + 1 ≤ (q : Int)) := by omega
       have hqd : decide ((q : Int) + 1 ≤ (q : Int)) = false := decide_eq_false hqI
       go_wp2_with fail
       refine wp_region_held_drew (S := (fun W => ((W.cell? ⟨w.heap.size, 0, none⟩ = some (.slice h.s m.sT.length h.sc) ∧ W.cell? ⟨w.heap.size, 1, none⟩ = some (.slice h.f m.fT.length h.fc) ∧ W.cell? ⟨w.heap.size, 2, none⟩ = some (.slice h.r m.rT.length h.rc) ∧ W.cell? ⟨w.heap.size, 3, none⟩ = some (.slice h.m m.mT.length h.mc) ∧ W.cell? ⟨w.heap.size, 4, none⟩ = some (.slice h.l m.lT.length h.lc) ∧ W.cell? ⟨w.heap.size, 5, none⟩ = some (.slice h.i m.iT.length h.ic) ∧ W.cell? ⟨w.heap.size, 6, none⟩ = some (.int .i64 m.dT) ∧ W.cell? ⟨w.heap.size, 7, none⟩ = some (.int .i64 m.oT) ∧ W.cell? ⟨w.heap.size, 8, none⟩ = some (.int .i64 m.vT) ∧ W.cell? ⟨w.heap.size, 9, none⟩ = some (.int .i64 m.aT) ∧ W.cell? ⟨w.heap.size, 10, none⟩ = some (.slice h.u m.uT.length h.uc)) ∧ W.cell? ⟨w.heap.size + 1 + 1, k, none⟩ = some (.int .i64 (bitN k)) ∧ W.cell? ⟨w.heap.size + 1 + 1 + 1, k, none⟩ = some (.int .i64 ((k : Int) + 1))) ∧ AlW w h m W)) (by kernel_rfl) (⟨AlW.at_ HS.out.drew HLK.out, HS.out.drew⟩) (fun hHeld => ?_)
       refine wpAnyH_take (i := 0) (oi := _) (v := ?_) rfl (by kernel_rfl) (by kernel_rfl) (by kernel_rfl) (fun _ _ _ h => h) (Or.inl ⟨by rfl, ?_⟩) hHeld ?_
       rotate_left
       · intro W hSw; (try dsimp only at hSw); go_simp; try with_reducible rfl
       simp only [Act.put, List.getElem_toArray, List.getElem_cons_zero, List.setIfInBounds_toArray, List.set_cons_zero, List.set_cons_succ]
       refine wpAnyH_take (i := 1) (oi := _) (v := ?_) rfl (by kernel_rfl) (by kernel_rfl) (by kernel_rfl) (fun _ _ _ h => h) (Or.inl ⟨by rfl, ?_⟩) hHeld ?_
       rotate_left
       · intro W hSw; (try dsimp only at hSw); go_simp; try with_reducible rfl
       simp only [Act.put, List.getElem_toArray, List.getElem_cons_succ, List.getElem_cons_zero, List.setIfInBounds_toArray, List.set_cons_zero, List.set_cons_succ]
       refine wpAnyH_take (i := 2) (oi := _) (v := ?_) rfl (by kernel_rfl) (by kernel_rfl) (by kernel_rfl) (fun _ _ _ h => h) (Or.inl ⟨by rfl, ?_⟩) hHeld ?_
       rotate_left
       · intro W hSw; (try dsimp only at hSw); go_simp; try with_reducible rfl
       simp only [Act.put, List.getElem_toArray, List.getElem_cons_succ, List.getElem_cons_zero, List.setIfInBounds_toArray, List.set_cons_zero, List.set_cons_succ]
       refine wpAnyH_take (i := 3) (oi := _) (v := ?_) rfl (by kernel_rfl) (by kernel_rfl) (by kernel_rfl) (fun _ _ _ h => h) (Or.inl ⟨by rfl, ?_⟩) hHeld ?_
       rotate_left
       · intro W hSw; (try dsimp only at hSw); go_simp; try with_reducible rfl
       simp only [Act.put, List.getElem_toArray, List.getElem_cons_succ, List.getElem_cons_zero, List.setIfInBounds_toArray, List.set_cons_zero, List.set_cons_succ]
       refine wpAnyH_take (i := 4) (oi := _) (v := ?_) rfl (by kernel_rfl) (by kernel_rfl) (by kernel_rfl) (fun _ _ _ h => h) (Or.inl ⟨by rfl, ?_⟩) hHeld ?_
       rotate_left
       · intro W hSw; (try dsimp only at hSw); go_simp; try with_reducible rfl
       simp only [Act.put, List.getElem_toArray, List.getElem_cons_succ, List.getElem_cons_zero, List.setIfInBounds_toArray, List.set_cons_zero, List.set_cons_succ]
       refine wpAnyH_take (i := 5) (oi := _) (v := ?_) rfl (by kernel_rfl) (by kernel_rfl) (by kernel_rfl) (fun _ _ _ h => h) (Or.inl ⟨by rfl, ?_⟩) hHeld ?_
       rotate_left
       · intro W hSw; (try dsimp only at hSw); go_simp; try with_reducible rfl
       simp only [Act.put, List.getElem_toArray, List.getElem_cons_succ, List.getElem_cons_zero, List.setIfInBounds_toArray, List.set_cons_zero, List.set_cons_succ]
       refine wpAnyH_ready (rs := [6]) (by kernel_rfl) (by simp) ?_
       refine AllReadyH.cons rfl (fun K hK => ?_) AllReadyH.nil
       go_simp
       (with_reducible refine (HDM.out _).mono ?_); rintro e w5 ⟨rfl, hb5⟩; have c7 := AlW.grow HS.out.drew hb5
       dsimp only
       refine hK.out _ _ (⟨AlW.at_ c7 HLK.out, c7⟩) (fun hHeld => ?_)
       clear hK K
       refine wpAnyH_take (i := 7) (oi := _) (v := (.bool false)) rfl (by kernel_rfl) (by kernel_rfl) (by kernel_rfl) (fun _ _ _ h => h) (Or.inl ⟨by rfl, ?_⟩) hHeld ?_
       · intro W hSw; (try dsimp only at hSw); go_simp
       simp only [Act.put, List.getElem_toArray, List.getElem_cons_succ, List.getElem_cons_zero, List.setIfInBounds_toArray, List.set_cons_zero, List.set_cons_succ]
       refine wpAnyH_take (i := 8) (oi := _) (v := (.bool false)) rfl (by kernel_rfl) (by kernel_rfl) (by kernel_rfl) (fun _ _ _ h => h) (Or.inl ⟨by rfl, ?_⟩) hHeld ?_
       · intro W hSw; (try dsimp only at hSw); go_simp
       simp only [Act.put, List.getElem_toArray, List.getElem_cons_succ, List.getElem_cons_zero, List.setIfInBounds_toArray, List.set_cons_zero, List.set_cons_succ]
       refine wpAnyH_take (i := 9) (oi := _) (v := _) rfl (by kernel_rfl) (by kernel_rfl) (by kernel_rfl) (fun _ _ _ h => h) (Or.inr ⟨by rfl, rfl⟩) hHeld ?_
       simp only [Act.put, List.getElem_toArray, List.getElem_cons_succ, List.getElem_cons_zero, List.setIfInBounds_toArray, List.set_cons_zero, List.set_cons_succ]
       refine wpAnyH_take (i := 10) (oi := _) (v := _) rfl (by kernel_rfl) (by kernel_rfl) (by kernel_rfl) (fun _ _ _ h => h) (Or.inr ⟨by rfl, rfl⟩) hHeld ?_
       simp only [Act.put, List.getElem_toArray, List.getElem_cons_succ, List.getElem_cons_zero, List.setIfInBounds_toArray, List.set_cons_zero, List.set_cons_succ]
       refine wpAnyH_take (i := 11) (oi := _) (v := _) rfl (by kernel_rfl) (by kernel_rfl) (by kernel_rfl) (fun _ _ _ h => h) (Or.inr ⟨by rfl, rfl⟩) hHeld ?_
       simp only [Act.put, List.getElem_toArray, List.getElem_cons_succ, List.getElem_cons_zero, List.setIfInBounds_toArray, List.set_cons_zero, List.set_cons_succ]
       refine wpAnyH_take (i := 12) (oi := _) (v := _) rfl (by kernel_rfl) (by kernel_rfl) (by kernel_rfl) (fun _ _ _ h => h) (Or.inr ⟨by rfl, rfl⟩) hHeld ?_
       simp only [Act.put, List.getElem_toArray, List.getElem_cons_succ, List.getElem_cons_zero, List.setIfInBounds_toArray, List.set_cons_zero, List.set_cons_succ]
       refine wpAnyH_take (i := 13) (oi := _) (v := _) rfl (by kernel_rfl) (by kernel_rfl) (by kernel_rfl) (fun _ _ _ h => h) (Or.inr ⟨by rfl, rfl⟩) hHeld ?_
       simp only [Act.put, List.getElem_toArray, List.getElem_cons_succ, List.getElem_cons_zero, List.setIfInBounds_toArray, List.set_cons_zero, List.set_cons_succ]
       refine wpAnyH_take (i := 14) (oi := _) (v := _) rfl (by kernel_rfl) (by kernel_rfl) (by kernel_rfl) (fun _ _ _ h => h) (Or.inr ⟨by rfl, rfl⟩) hHeld ?_
       simp only [Act.put, List.getElem_toArray, List.getElem_cons_succ, List.getElem_cons_zero, List.setIfInBounds_toArray, List.set_cons_zero, List.set_cons_succ]
       refine wpAnyH_take (i := 15) (oi := _) (v := _) rfl (by kernel_rfl) (by kernel_rfl) (by kernel_rfl) (fun _ _ _ h => h) (Or.inr ⟨by rfl, rfl⟩) hHeld ?_
       simp only [Act.put, List.getElem_toArray, List.getElem_cons_succ, List.getElem_cons_zero, List.setIfInBounds_toArray, List.set_cons_zero, List.set_cons_succ]
       refine wpAnyH_take (i := 16) (oi := _) (v := _) rfl (by kernel_rfl) (by kernel_rfl) (by kernel_rfl) (fun _ _ _ h => h) (Or.inr ⟨by rfl, rfl⟩) hHeld ?_
       simp only [Act.put, List.getElem_toArray, List.getElem_cons_succ, List.getElem_cons_zero, List.setIfInBounds_toArray, List.set_cons_zero, List.set_cons_succ]
       refine wpAnyH_take (i := 17) (oi := _) (v := ?_) rfl (by kernel_rfl) (by kernel_rfl) (by kernel_rfl) (fun _ _ _ h => h) (Or.inl ⟨by rfl, ?_⟩) hHeld ?_
       rotate_left
       · intro W hSw; (try dsimp only at hSw); go_simp; try with_reducible rfl
       simp only [Act.put, List.getElem_toArray, List.getElem_cons_succ, List.getElem_cons_zero, List.setIfInBounds_toArray, List.set_cons_zero, List.set_cons_succ]
       refine wpAnyH_done (by kernel_rfl) ?_ _
       have HO5 := hide (hS.out.1.below ((Below.refl _ _).drew.trans hb5))
       go_wp2_with fail
       go_roundw
       case rel => exact ⟨k + 1, by have := HLK.out; omega, by go_num, hide ⟨by rw [← HP.out]; exact HO5.out, c7⟩⟩
       case measure => have := HLK.out; simp [intOf]; omega
  · obtain rfl : k = 3 := by omega
    have hS := hS.out
    have HP := hide (preF_all m)
    have HO9 := hide hS.1
    have HS9 := hide hS.2
    clear hS
    go_wp2_with fail
    go_ret
    exact ⟨_, rfl, by rw [← HP.out]; exact HO9.out, HS9.out.b⟩
structure SL (w : World) (M X : Array Value) (W : World) : Prop where
 s : SR w M X W
 l : Blk W (w.heap.size + 1 + 1) 3 #[.int .i64 0, .int .i64 1, .int .i64 2, .int .i64 3]
theorem SL.b {w : World} {M X : Array Value} {W : World} (s : SL w M X W) : Below w.heap.size w W := s.s.b
theorem SL.start (w : World) (M X : Array Value) : SL w M X (((w.alloc (.cells M 29)).alloc (.cells X 32)).alloc (.cells #[.int .i64 0, .int .i64 1, .int .i64 2, .int .i64 3] 3)) := by
 have hs := SR.start w M X
 have hsz : ((w.alloc (.cells M 29)).alloc (.cells X 32)).heap.size = w.heap.size + 1 + 1 := by simp
 exact ⟨hs.grow ((Below.refl _ _).alloc (Nat.le_refl _) _), by rw [← hsz]; exact Blk.new _ _ _⟩
theorem SL.drew {w : World} {M X : Array Value} {W : World} (s : SL w M X W) : SL w M X W.drew := ⟨s.s.drew, s.l⟩
theorem SL.grow {w : World} {M X : Array Value} {W W2 : World} (s : SL w M X W) (hb : Below W.heap.size W W2) : SL w M X W2 := ⟨s.s.grow hb, s.l.below hb s.l.lt⟩
theorem SL.ints {w : World} {M X : Array Value} {W : World} (s : SL w M X W) : Ints W W.heap.size (some ⟨w.heap.size + 1 + 1, 0, none⟩) [0, 1, 2, 3] :=
 ⟨rfl, fun _ => ⟨_, rfl, s.l.lt, fun j u hu => by rw [add_none, Nat.zero_add, s.l.cell]; simpa using hu⟩⟩
theorem SL.cells {w : World} {h : MH} {m : Mod} {x : RuleM} {A : Option Addr} {c : Nat} {W : World} (s : SL w #[.slice h.s m.sT.length h.sc, .slice h.f m.fT.length h.fc, .slice h.r m.rT.length h.rc, .slice h.m m.mT.length h.mc, .slice h.l m.lT.length h.lc, .slice h.i m.iT.length h.ic, .int .i64 m.dT, .int .i64 m.oT, .int .i64 m.vT, .int .i64 m.aT, .slice h.u m.uT.length h.uc] #[.int .i64 x.kind, .int .i64 x.item, .int .i64 x.other, .int .i64 x.n, .int .i64 x.by_, .bool x.always, .slice A x.machines.length c] W) : (W.cell? ⟨w.heap.size, 0, none⟩ = some (.slice h.s m.sT.length h.sc) ∧ W.cell? ⟨w.heap.size, 1, none⟩ = some (.slice h.f m.fT.length h.fc) ∧ W.cell? ⟨w.heap.size, 2, none⟩ = some (.slice h.r m.rT.length h.rc) ∧ W.cell? ⟨w.heap.size, 3, none⟩ = some (.slice h.m m.mT.length h.mc) ∧ W.cell? ⟨w.heap.size, 4, none⟩ = some (.slice h.l m.lT.length h.lc) ∧ W.cell? ⟨w.heap.size, 5, none⟩ = some (.slice h.i m.iT.length h.ic) ∧ W.cell? ⟨w.heap.size, 6, none⟩ = some (.int .i64 m.dT) ∧ W.cell? ⟨w.heap.size, 7, none⟩ = some (.int .i64 m.oT) ∧ W.cell? ⟨w.heap.size, 8, none⟩ = some (.int .i64 m.vT) ∧ W.cell? ⟨w.heap.size, 9, none⟩ = some (.int .i64 m.aT) ∧ W.cell? ⟨w.heap.size, 10, none⟩ = some (.slice h.u m.uT.length h.uc)) ∧ (W.cell? ⟨w.heap.size + 1, 0, none⟩ = some (.int .i64 x.kind) ∧ W.cell? ⟨w.heap.size + 1, 1, none⟩ = some (.int .i64 x.item) ∧ W.cell? ⟨w.heap.size + 1, 2, none⟩ = some (.int .i64 x.other) ∧ W.cell? ⟨w.heap.size + 1, 3, none⟩ = some (.int .i64 x.n) ∧ W.cell? ⟨w.heap.size + 1, 4, none⟩ = some (.int .i64 x.by_) ∧ W.cell? ⟨w.heap.size + 1, 5, none⟩ = some (.bool x.always) ∧ W.cell? ⟨w.heap.size + 1, 6, none⟩ = some (.slice A x.machines.length c)) ∧ W.cell? ⟨w.heap.size + 1 + 1, 0, none⟩ = some (.int .i64 0) ∧ W.cell? ⟨w.heap.size + 1 + 1, 1, none⟩ = some (.int .i64 1) ∧ W.cell? ⟨w.heap.size + 1 + 1, 2, none⟩ = some (.int .i64 2) ∧ W.cell? ⟨w.heap.size + 1 + 1, 3, none⟩ = some (.int .i64 3) :=
 ⟨⟨s.s.m.cell 0, s.s.m.cell 1, s.s.m.cell 2, s.s.m.cell 3, s.s.m.cell 4, s.s.m.cell 5, s.s.m.cell 6, s.s.m.cell 7, s.s.m.cell 8, s.s.m.cell 9, s.s.m.cell 10⟩, ⟨s.s.x.cell 0, s.s.x.cell 1, s.s.x.cell 2, s.s.x.cell 3, s.s.x.cell 4, s.s.x.cell 5, s.s.x.cell 6⟩, s.l.cell 0, s.l.cell 1, s.l.cell 2, s.l.cell 3⟩
structure RuleC (w : World) (h : MH) (m : Mod) (x : RuleM) (A : Option Addr) : Prop where
 d : MD w w.heap.size h m
 f : FewM m
 i : Ints w w.heap.size A x.machines
 il : x.machines.length ≤ 9223372036854775807
 il2 : m.iT.length ≤ 100
 on : ∀ y ∈ m.iT, y.on.length ≤ 100
theorem RuleC.dm {w : World} {h : MH} {m : Mod} {x : RuleM} {A : Option Addr} (c : RuleC w h m x A) : domsI m x.by_ ≤ 100 := by
 have h1 := c.f.cm
 have h2 := c.f.cr
 have h3 := c.f.ce
 have h4 := c.f.cs
 unfold domsI
 repeat' split
 all_goals omega
end Go.Proofs.YtlnjaemdelnceaaGreatDoor
