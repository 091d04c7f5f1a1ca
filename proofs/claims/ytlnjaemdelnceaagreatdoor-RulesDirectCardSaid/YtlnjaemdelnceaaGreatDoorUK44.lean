/- A part of the claim: see its last text. -/
import Derived.Test.YtlnjaemdelnceaaGreatDoorUK34
import Derived.Test.YtlnjaemdelnceaaGreatDoorUK24
import Derived.Test.YtlnjaemdelnceaaGreatDoorUK15
import Derived.Test.YtlnjaemdelnceaaGreatDoorUK30
import Derived.Test.YtlnjaemdelnceaaGreatDoorUK12
import Derived.Test.YtlnjaemdelnceaaGreatDoorUK36

set_option maxRecDepth 100000
set_option maxHeartbeats 16000000
namespace Go.Proofs.YtlnjaemdelnceaaGreatDoor
open Go Go.RowKit Go.Proofs
structure C3 (w : World) (M F G : Array Value) (W : World) : Prop where
 m : Blk W w.heap.size 29 M
 f : Blk W (w.heap.size + 1) 37 F
 g : Blk W (w.heap.size + 1 + 1) 37 G
 b : Below w.heap.size w W
theorem C3.start (w : World) (M F G : Array Value) : C3 w M F G (((w.alloc (.cells M 29)).alloc (.cells F 37)).alloc (.cells G 37)) := by
 refine ⟨((Blk.new w _ _).alloc _).alloc _, ?_, ?_, (((Below.refl _ _).alloc (Nat.le_refl _) _).alloc (by simp) _).alloc (by simp; omega) _⟩
 · have := (Blk.new (w.alloc (.cells M 29)) 37 F).alloc (.cells G 37)
   simpa using this
 · have := Blk.new ((w.alloc (.cells M 29)).alloc (.cells F 37)) 37 G
   simpa using this
theorem C3.grow {w : World} {M F G : Array Value} {W W2 : World} (s : C3 w M F G W) (hb : Below W.heap.size W W2) : C3 w M F G W2 := ⟨s.m.below hb s.m.lt, s.f.below hb s.f.lt, s.g.below hb s.g.lt, s.b.trans (hb.mono s.b.size)⟩
theorem C3.cells {w : World} {h : MH} {m : Mod} {f g : Int × Int} {W : World} (s : C3 w #[.slice h.s m.sT.length h.sc, .slice h.f m.fT.length h.fc, .slice h.r m.rT.length h.rc, .slice h.m m.mT.length h.mc, .slice h.l m.lT.length h.lc, .slice h.i m.iT.length h.ic, .int .i64 m.dT, .int .i64 m.oT, .int .i64 m.vT, .int .i64 m.aT, .slice h.u m.uT.length h.uc] #[.int .i64 f.1, .int .i64 f.2] #[.int .i64 g.1, .int .i64 g.2] W) : (W.cell? ⟨w.heap.size, 0, none⟩ = some (.slice h.s m.sT.length h.sc) ∧ W.cell? ⟨w.heap.size, 1, none⟩ = some (.slice h.f m.fT.length h.fc) ∧ W.cell? ⟨w.heap.size, 2, none⟩ = some (.slice h.r m.rT.length h.rc) ∧ W.cell? ⟨w.heap.size, 3, none⟩ = some (.slice h.m m.mT.length h.mc) ∧ W.cell? ⟨w.heap.size, 4, none⟩ = some (.slice h.l m.lT.length h.lc) ∧ W.cell? ⟨w.heap.size, 5, none⟩ = some (.slice h.i m.iT.length h.ic) ∧ W.cell? ⟨w.heap.size, 6, none⟩ = some (.int .i64 m.dT) ∧ W.cell? ⟨w.heap.size, 7, none⟩ = some (.int .i64 m.oT) ∧ W.cell? ⟨w.heap.size, 8, none⟩ = some (.int .i64 m.vT) ∧ W.cell? ⟨w.heap.size, 9, none⟩ = some (.int .i64 m.aT) ∧ W.cell? ⟨w.heap.size, 10, none⟩ = some (.slice h.u m.uT.length h.uc)) ∧ (W.cell? ⟨w.heap.size + 1, 0, none⟩ = some (.int .i64 f.1) ∧ W.cell? ⟨w.heap.size + 1, 1, none⟩ = some (.int .i64 f.2)) ∧ (W.cell? ⟨w.heap.size + 1 + 1, 0, none⟩ = some (.int .i64 g.1) ∧ W.cell? ⟨w.heap.size + 1 + 1, 1, none⟩ = some (.int .i64 g.2)) ∧ w.heap.size < W.heap.size ∧ w.heap.size + 1 + 1 < W.heap.size :=
 ⟨MB.cells s.m, ⟨s.f.cell 0, s.f.cell 1⟩, ⟨s.g.cell 0, s.g.cell 1⟩, s.m.lt, s.g.lt⟩
theorem covers_prog (h : MH) (m : Mod) (f g : Int × Int) (w : World) (d : MD w w.heap.size h m) :
    Calls Tryz.prog 27 #[.agg #[.slice h.s m.sT.length h.sc, .slice h.f m.fT.length h.fc, .slice h.r m.rT.length h.rc, .slice h.m m.mT.length h.mc, .slice h.l m.lT.length h.lc, .slice h.i m.iT.length h.ic, .int .i64 m.dT, .int .i64 m.oT, .int .i64 m.vT, .int .i64 m.aT, .slice h.u m.uT.length h.uc], .agg #[.int .i64 f.1, .int .i64 f.2], .agg #[.int .i64 g.1, .int .i64 g.2]] w (AnsR w (.bool (coversB m f g))) := by
 have HS := hide (C3.start w #[.slice h.s m.sT.length h.sc, .slice h.f m.fT.length h.fc, .slice h.r m.rT.length h.rc, .slice h.m m.mT.length h.mc, .slice h.l m.lT.length h.lc, .slice h.i m.iT.length h.ic, .int .i64 m.dT, .int .i64 m.oT, .int .i64 m.vT, .int .i64 m.aT, .slice h.u m.uT.length h.uc] #[.int .i64 f.1, .int .i64 f.2] #[.int .i64 g.1, .int .i64 g.2])
 have HH := hide (fun W (hW : Below w.heap.size w W) (e : Int × Int) (n : Int) => hits_prog h m e n W (d.grow hW))
 have ml := d.ml
 have HIF := hide (fun (hh : ∀ k, k < m.mT.length → (hitsB m g ((k : Int) + 1) && !hitsB m f ((k : Int) + 1)) = false) => (coversB_iff (f := f) (g := g)).2 hh)
 have HNO := hide (show ∀ k, k < m.mT.length → (hitsB m g ((k : Int) + 1) && !hitsB m f ((k : Int) + 1)) = true → coversB m f g = false from fun k hk e => by
  cases hc : coversB m f g
  · rfl
  · rw [coversB_iff.1 hc k hk] at e; cases e)
 clear d
 go_enter Tryz.func27, Tryz.ntmps27
 go_upto_region 1 with (fail)
 refine (show ∀ W0, C3 w #[.slice h.s m.sT.length h.sc, .slice h.f m.fT.length h.fc, .slice h.r m.rT.length h.rc, .slice h.m m.mT.length h.mc, .slice h.l m.lT.length h.lc, .slice h.i m.iT.length h.ic, .int .i64 m.dT, .int .i64 m.oT, .int .i64 m.vT, .int .i64 m.aT, .slice h.u m.uT.length h.uc] #[.int .i64 f.1, .int .i64 f.2] #[.int .i64 g.1, .int .i64 g.2] W0 → Code.wp Tryz.prog _ _ _ W0 from ?_) _ HS.out
 intro W0 hS0
 have HS0 := hide hS0
 obtain ⟨⟨a0, a1, a2, a3, a4, a5, a6, a7, a8, a9, a10⟩, ⟨f0, f1⟩, ⟨g0, g1⟩, l1, l2⟩ := hS0.cells
 clear hS0 HS a0 a1 a2 a4 a5 a6 a7 a8 a9 a10 f0 f1 g0 g1
 go_wp2_with fail
 clear a3 l1 l2
 go_loopw [7, 11] (fun _ i wr => ∃ k : Nat, k ≤ m.mT.length ∧ i = .int .i64 k ∧ Hid (∀ j, j < k → (hitsB m g ((j : Int) + 1) && !hitsB m f ((j : Int) + 1)) = false) ∧ Hid (C3 w #[.slice h.s m.sT.length h.sc, .slice h.f m.fT.length h.fc, .slice h.r m.rT.length h.rc, .slice h.m m.mT.length h.mc, .slice h.l m.lT.length h.lc, .slice h.i m.iT.length h.ic, .int .i64 m.dT, .int .i64 m.oT, .int .i64 m.vT, .int .i64 m.aT, .slice h.u m.uT.length h.uc] #[.int .i64 f.1, .int .i64 f.2] #[.int .i64 g.1, .int .i64 g.2] wr)) (fun _ i _ => m.mT.length - (intOf i).toNat)
 case atStart => exact ⟨0, Nat.zero_le _, rfl, fun j h0 => absurd h0 (by omega), HS0.out⟩
 case round =>
  clear HS0
  obtain ⟨k, hk, rfl, hs, hS⟩ := hrel
  by_cases hlt : k < m.mT.length
  · obtain ⟨⟨a0, a1, a2, a3, a4, a5, a6, a7, a8, a9, a10⟩, ⟨f0, f1⟩, ⟨g0, g1⟩, l1, l2⟩ := hS.out.cells
    obtain ⟨bg, hbg⟩ : ∃ b, b = hitsB m g ((k : Int) + 1) := ⟨_, rfl⟩
    obtain ⟨bf, hbf⟩ : ∃ b, b = hitsB m f ((k : Int) + 1) := ⟨_, rfl⟩
    have HG := hide (fun W (hW : Below w.heap.size w W) => HH.out W hW g ((k : Int) + 1))
    have HF := hide (fun W (hW : Below w.heap.size w W) => HH.out W hW f ((k : Int) + 1))
    rw [← hbg] at HG
    rw [← hbf] at HF
    have HNX := hide (show (bg && !bf) = false → ∀ j, j < k + 1 → (hitsB m g ((j : Int) + 1) && !hitsB m f ((j : Int) + 1)) = false from fun e j hj => by
     rcases Nat.lt_or_ge j k with h2 | h2
     · exact hs.out j h2
     · obtain rfl : j = k := by omega
       rw [← hbg, ← hbf]; exact e)
    have HBD := hide (show (bg && !bf) = true → coversB m f g = false from fun e => HNO.out k hlt (by rw [← hbg, ← hbf]; exact e))
    have hkI : (k : Int) < (m.mT.length : Int) := by omega
    have HLT := hide hlt
    clear hbg hbf hs hlt
    cases bg <;> cases bf
    all_goals
     go_wp2_with (first
      | (go_at_call 55; (with_reducible refine (HG.out _ hS.out.b).mono ?_); rintro e w1 ⟨rfl, hb⟩
         have HS1 := hide (hS.out.grow hb)
         clear hb a0 a1 a2 a3 a4 a5 a6 a7 a8 a9 a10 f0 f1 g0 g1 l1 l2 hS
         have hS := HS1
         obtain ⟨⟨a0, a1, a2, a3, a4, a5, a6, a7, a8, a9, a10⟩, ⟨f0, f1⟩, ⟨g0, g1⟩, l1, l2⟩ := hS.out.cells)
      | (go_at_call 55; (with_reducible refine (HF.out _ hS.out.b).mono ?_); rintro e w1 ⟨rfl, hb⟩
         have HS1 := hide (hS.out.grow hb)
         clear hb a0 a1 a2 a3 a4 a5 a6 a7 a8 a9 a10 f0 f1 g0 g1 l1 l2 hS
         have hS := HS1))
    · go_roundw
      case rel => exact ⟨k + 1, by have := HLT.out; omega, by have := HLT.out; go_num, HNX.out rfl, hS.out⟩
      case measure => have := HLT.out; simp [intOf]; omega
    · go_roundw
      case rel => exact ⟨k + 1, by have := HLT.out; omega, by have := HLT.out; go_num, HNX.out rfl, hS.out⟩
      case measure => have := HLT.out; simp [intOf]; omega
    · go_ret
      exact ⟨by rw [HBD.out rfl]; rfl, hS.out.b⟩
    · go_roundw
      case rel => exact ⟨k + 1, by have := HLT.out; omega, by have := HLT.out; go_num, HNX.out rfl, hS.out⟩
      case measure => have := HLT.out; simp [intOf]; omega
  · obtain rfl : k = m.mT.length := by omega
    have HC := hide (HIF.out hs.out)
    go_wp2_with fail
    go_ret
    exact ⟨by rw [HC.out]; rfl, hS.out.b⟩
theorem last_take {l : List UnitM} {n : Nat} (h : n < l.length) : (l.take (n + 1)).getLast? = some l[n] := by
 rw [List.take_succ_eq_append_getElem h]; exact List.getLast?_concat ..
def stateOk (kd s : Int) : Bool := decide (s = 0) || decide (s = 1) || (decide (s = 2) && decide (kd = 2))
theorem st_0 (kk : Int) {u2 : Int} (h : (u2 != 0) = false) : stateOk kk u2 = true := by simp at h; simp [stateOk, h]
theorem st_1 (kk : Int) {u2 : Int} (h : (u2 != 1) = false) : stateOk kk u2 = true := by simp at h; simp [stateOk, h]
theorem st_2 {kk u2 : Int} (h : (u2 != 2) = false) (h2 : (kk != 2) = false) : stateOk kk u2 = true := by simp at h h2; simp [stateOk, h, h2]
theorem st_n (kk : Int) {u2 : Int} (h0 : (u2 != 0) = true) (h1 : (u2 != 1) = true) (h : (u2 != 2) = true) : stateOk kk u2 = false := by simp at h0 h1 h; simp [stateOk, h0, h1, h]
theorem st_k {kk u2 : Int} (h0 : (u2 != 0) = true) (h1 : (u2 != 1) = true) (h : (kk != 2) = true) : stateOk kk u2 = false := by simp at h0 h1 h; simp [stateOk, h0, h1, h]
theorem unit_zero (m : Mod) (kd : Int) (u : UnitM) : unitOk m kd u [] = (exI u.1 m.mT.length && stateOk kd u.2) := by simp [unitOk, stateOk]
theorem unit_succ (m : Mod) (kd : Int) (u : UnitM) {l : List UnitM} {n : Nat} (h : n < l.length) : unitOk m kd u (l.take (n + 1)) = (exI u.1 m.mT.length && decide (l[n].1 < u.1) && stateOk kd u.2) := by
 unfold unitOk stateOk; rw [last_take h]
theorem sound_next {m : Mod} {kd : Int} {l : List UnitM} {n : Nat} (h : ∀ j (hj : j < l.length), j < n → unitOk m kd l[j] (l.take j) = true) (hn : n < l.length) (hu : unitOk m kd l[n] (l.take n) = true) : ∀ j (hj : j < l.length), j < n + 1 → unitOk m kd l[j] (l.take j) = true := by
 intro j hj h1
 rcases Nat.lt_or_ge j n with h2 | h2
 · exact h j hj h2
 · obtain rfl : j = n := by omega
   exact hu
theorem kindAt_is {m : Mod} {k : Nat} (h : k < m.iT.length) : kindAt m k = m.iT[k].kind := by simp [kindAt, h]
theorem pl_no {m : Mod} {p : PlaceM} {k : Nat} (hk : k < p.length) {n : Nat} (hn : n < p[k].length) (h : unitOk m (kindAt m k) p[k][n] (p[k].take n) = false) : validPl m p = false := by
 cases hc : validPl m p
 · rfl
 · have := soundB_iff.1 ((validPl_iff.1 hc).2.2 k hk) n hn
   rw [h] at this; cases this
theorem MPB.cells2 {w : World} {h : MH} {m : Mod} {A : Option Addr} {n c : Nat} {W : World} (s : MPB w #[.slice h.s m.sT.length h.sc, .slice h.f m.fT.length h.fc, .slice h.r m.rT.length h.rc, .slice h.m m.mT.length h.mc, .slice h.l m.lT.length h.lc, .slice h.i m.iT.length h.ic, .int .i64 m.dT, .int .i64 m.oT, .int .i64 m.vT, .int .i64 m.aT, .slice h.u m.uT.length h.uc] #[.slice A n c] W) : (W.cell? ⟨w.heap.size, 0, none⟩ = some (.slice h.s m.sT.length h.sc) ∧ W.cell? ⟨w.heap.size, 1, none⟩ = some (.slice h.f m.fT.length h.fc) ∧ W.cell? ⟨w.heap.size, 2, none⟩ = some (.slice h.r m.rT.length h.rc) ∧ W.cell? ⟨w.heap.size, 3, none⟩ = some (.slice h.m m.mT.length h.mc) ∧ W.cell? ⟨w.heap.size, 4, none⟩ = some (.slice h.l m.lT.length h.lc) ∧ W.cell? ⟨w.heap.size, 5, none⟩ = some (.slice h.i m.iT.length h.ic) ∧ W.cell? ⟨w.heap.size, 6, none⟩ = some (.int .i64 m.dT) ∧ W.cell? ⟨w.heap.size, 7, none⟩ = some (.int .i64 m.oT) ∧ W.cell? ⟨w.heap.size, 8, none⟩ = some (.int .i64 m.vT) ∧ W.cell? ⟨w.heap.size, 9, none⟩ = some (.int .i64 m.aT) ∧ W.cell? ⟨w.heap.size, 10, none⟩ = some (.slice h.u m.uT.length h.uc)) ∧ W.cell? ⟨w.heap.size + 1, 0, none⟩ = some (.slice A n c) ∧ w.heap.size < W.heap.size ∧ w.heap.size + 1 < W.heap.size := ⟨MB.cells s.m, s.p.cell 0, s.m.lt, s.p.lt⟩
theorem place_valid (h : MH) (m : Mod) (A : Option Addr) (c : Nat) (p : PlaceM) (w : World) (d : MD w w.heap.size h m) (hP : PR w w.heap.size A p) (hpl : p.length ≤ 9223372036854775807) :
    Calls Tryz.prog 23 #[.agg #[.slice h.s m.sT.length h.sc, .slice h.f m.fT.length h.fc, .slice h.r m.rT.length h.rc, .slice h.m m.mT.length h.mc, .slice h.l m.lT.length h.lc, .slice h.i m.iT.length h.ic, .int .i64 m.dT, .int .i64 m.oT, .int .i64 m.vT, .int .i64 m.aT, .slice h.u m.uT.length h.uc], .agg #[.slice A p.length c]] w (AnsR w (.bool (validPl m p))) := by
 have HS := hide (MPB.start w #[.slice h.s m.sT.length h.sc, .slice h.f m.fT.length h.fc, .slice h.r m.rT.length h.rc, .slice h.m m.mT.length h.mc, .slice h.l m.lT.length h.lc, .slice h.i m.iT.length h.ic, .int .i64 m.dT, .int .i64 m.oT, .int .i64 m.vT, .int .i64 m.aT, .slice h.u m.uT.length h.uc] #[.slice A p.length c])
 have HV := hide (fun W (hW : Below w.heap.size w W) => valid15_ref h m W (d.grow hW))
 have HD := hide (fun W (hW : Below w.heap.size w W) => And.intro (d.grow hW) (hP.grow hW))
 have il := d.il
 have mll := d.ml
 have HP0 := hide hP
 have HD0 := hide d
 clear d hP
 have hB2 : ∀ b : Bool, b = false ∨ b = true := fun b => by cases b <;> simp
 by_cases hbad : validM m = false ∨ p.length ≠ m.iT.length
 · have HNO := hide (show validPl m p = false by
     cases hc : validPl m p
     · rfl
     · have h2 := validPl_iff.1 hc
       rcases hbad with e | e
       · rw [h2.1] at e; cases e
       · exact absurd h2.2.1 e)
   obtain ⟨vb, hvb⟩ : ∃ vb, vb = validM m := ⟨_, rfl⟩
   rw [← hvb] at HV hbad
   clear hvb
   have HVS := hide hbad
   cases vb
   · clear hbad
     go_enter Tryz.func23, Tryz.ntmps23
     go_wp2_with (go_at_call 50; (with_reducible refine (HV.out _ HS.out.b).mono ?_); rintro e w1 ⟨rfl, hb⟩; have HS1 := hide (HS.out.grow hb); clear hb)
     go_ret
     exact ⟨by rw [HNO.out]; rfl, HS1.out.b⟩
   · have hne : p.length ≠ m.iT.length := by rcases hbad with e | e; cases e; exact e
     have hni : ¬ (p.length : Int) = (m.iT.length : Int) := by omega
     clear hbad
     go_enter Tryz.func23, Tryz.ntmps23
     go_wp2_with (go_at_call 50; (with_reducible refine (HV.out _ HS.out.b).mono ?_); rintro e w1 ⟨rfl, hb⟩; have HS1 := hide (HS.out.grow hb); clear hb; obtain ⟨⟨a0, a1, a2, a3, a4, a5, a6, a7, a8, a9, a10⟩, p0, l1, l2⟩ := HS1.out.cells2)
     all_goals
      go_ret
      exact ⟨by rw [HNO.out]; rfl, HS1.out.b⟩
 · obtain ⟨hv, hlen⟩ : validM m = true ∧ p.length = m.iT.length := by
     cases e : validM m
     · exact absurd (.inl e) hbad
     · exact ⟨rfl, Decidable.byContradiction fun h2 => hbad (.inr h2)⟩
   rw [hv] at HV
   have HLEN := hide hlen
   have HYES := hide (show (∀ i (hi : i < p.length), soundB (unitOk m (kindAt m i)) p[i] = true) → validPl m p = true from fun hh => validPl_iff.2 ⟨hv, hlen, hh⟩)
   have hlI : ((p.length : Int) != (m.iT.length : Int)) = false := by simp; omega
   have hlN : (p.length != m.iT.length) = false := by simpa using hlen
   clear hbad hv hlen
   go_enter Tryz.func23, Tryz.ntmps23
   go_upto_region 3 with (go_at_call 50; (with_reducible refine (HV.out _ HS.out.b).mono ?_); rintro e w1 ⟨rfl, hb⟩; have HS1 := hide (HS.out.grow hb); clear hb; obtain ⟨⟨a0, a1, a2, a3, a4, a5, a6, a7, a8, a9, a10⟩, p0, l1, l2⟩ := HS1.out.cells2)
   clear a0 a1 a2 a3 a4 a5 a6 a7 a8 a9 a10 p0 l1 l2 HS hlI hlN
   go_upto_region 4 with (fail)
   go_loopw [5] (fun i wr => ∃ k : Nat, k ≤ p.length ∧ i = .int .i64 k ∧ Hid (∀ j (hj : j < p.length), j < k → soundB (unitOk m (kindAt m j)) p[j] = true) ∧ Hid (MPB w #[.slice h.s m.sT.length h.sc, .slice h.f m.fT.length h.fc, .slice h.r m.rT.length h.rc, .slice h.m m.mT.length h.mc, .slice h.l m.lT.length h.lc, .slice h.i m.iT.length h.ic, .int .i64 m.dT, .int .i64 m.oT, .int .i64 m.vT, .int .i64 m.aT, .slice h.u m.uT.length h.uc] #[.slice A p.length c] wr)) (fun i _ => p.length - (intOf i).toNat)
   case atStart => exact ⟨0, Nat.zero_le _, rfl, fun j hj h0 => absurd h0 (by omega), HS1.out⟩
   case round =>
    clear HS1
    obtain ⟨k, hk, rfl, hs, hS⟩ := hrel
    obtain ⟨⟨a0, a1, a2, a3, a4, a5, a6, a7, a8, a9, a10⟩, p0, l1, l2⟩ := hS.out.cells2
    by_cases hlt : k < p.length
    · have hkI : (k : Int) < (p.length : Int) := by omega
      clear a0 a1 a2 a3 a4 a5 a6 a7 a8 a9 a10
      go_upto_region 7 with (fail)
      obtain ⟨b, off, A2, c2, hA, hb, x0, hc1, hc2, hF⟩ := HP0.out k hlt
      obtain ⟨l, hl⟩ : ∃ l, l = p[k] := ⟨_, rfl⟩
      rw [← hl] at x0 hc1 hF
      obtain ⟨kk, hkk⟩ : ∃ kk, kk = kindAt m k := ⟨_, rfl⟩
      have hki : k < m.iT.length := by have := HLEN.out; omega
      obtain ⟨bi, oi, Ai, ci, hAi, hbi, zz, z1, zr⟩ := HD0.out.dI.item hki
      rw [← kindAt_is hki, ← hkk] at z1
      have HX := hide (fun W (hW : Below w.heap.size w W) => (show W.cell? ⟨b, off + k, none⟩ = some (.slice A2 l.length c2) ∧ b < W.heap.size ∧ FR W W.heap.size A2 l ∧ W.cell? ⟨bi, oi + k * 7 + 1, none⟩ = some (.int .i64 kk) ∧ bi < W.heap.size from
       ⟨(hW.cell (p := ⟨b, off + k, none⟩) hb).trans x0, Nat.lt_of_lt_of_le hb hW.size, (hF.below hW).more hW.size, (hW.cell (p := ⟨bi, oi + k * 7 + 1, none⟩) hbi).trans z1, Nat.lt_of_lt_of_le hbi hW.size⟩))
      have HNO := hide (fun n (hn : n < l.length) (e : unitOk m kk l[n] (l.take n) = false) => (show validPl m p = false by
       subst hl hkk
       exact pl_no hlt hn e))
      have HSO := hide (show (∀ j (hj : j < l.length), unitOk m kk l[j] (l.take j) = true) → ∀ j (hj : j < p.length), j < k + 1 → soundB (unitOk m (kindAt m j)) p[j] = true from fun hh j hj h1 => by
       rcases Nat.lt_or_ge j k with h2 | h2
       · exact hs.out j hj h2
       · obtain rfl : j = k := by omega
         subst hl hkk
         exact soundB_true hh)
      have HLT := hide hlt
      have hll : l.length ≤ 9223372036854775807 := by omega
      have hkM : (k : Int) < (m.iT.length : Int) := by omega
      subst hA
      have HAI := hide hAi
      clear x0 hb hc1 hc2 hF hl hkk zz zr z1 hbi hAi hki hs hlt p0 l1 l2
      have HS2 := hide hS.out
      clear hS
      go_loopw [6] (fun i wr => ∃ n : Nat, n ≤ l.length ∧ i = .int .i64 n ∧ Hid (∀ j (hj : j < l.length), j < n → unitOk m kk l[j] (l.take j) = true) ∧ Hid (MPB w #[.slice h.s m.sT.length h.sc, .slice h.f m.fT.length h.fc, .slice h.r m.rT.length h.rc, .slice h.m m.mT.length h.mc, .slice h.l m.lT.length h.lc, .slice h.i m.iT.length h.ic, .int .i64 m.dT, .int .i64 m.oT, .int .i64 m.vT, .int .i64 m.aT, .slice h.u m.uT.length h.uc] #[.slice (some ⟨b, off, none⟩) p.length c] wr)) (fun i _ => l.length - (intOf i).toNat)
      case atStart => exact ⟨0, Nat.zero_le _, rfl, fun j hj h0 => absurd h0 (by omega), HS2.out⟩
      case round =>
       clear HS2
       obtain ⟨n, hn, rfl, hs, hS⟩ := hrel
       obtain ⟨⟨a0, a1, a2, a3, a4, a5, a6, a7, a8, a9, a10⟩, p0, l1, l2⟩ := hS.out.cells2
       obtain ⟨x0, xb, hF, zk, zb⟩ := HX.out _ hS.out.b
       clear a0 a1 a2 a3 a4 a5 a6 a7 a8 a9 a10
       by_cases hnl : n < l.length
       · obtain ⟨b', off', hA2, hb', y0, y1⟩ := hF.at_ hnl
         obtain ⟨u1, hu1⟩ : ∃ u, u = l[n].1 := ⟨_, rfl⟩
         obtain ⟨u2, hu2⟩ : ∃ u, u = l[n].2 := ⟨_, rfl⟩
         rw [← hu1] at y0
         rw [← hu2] at y1
         have hnI : (n : Int) < (l.length : Int) := by omega
         have HNL := hide hnl
         obtain ⟨ub, hub⟩ : ∃ ub, ub = unitOk m kk l[n] (l.take n) := ⟨_, rfl⟩
         have HUN := hide (show ∀ q v1, (n = 0 ∧ q = true ∨ ∃ j, ∃ hj : j < l.length, n = j + 1 ∧ v1 = l[j].1 ∧ q = decide (v1 < u1)) → ub = (exI u1 m.mT.length && q && stateOk kk u2) from fun q v1 hq => by
          rw [hub]
          rcases hq with ⟨rfl, rfl⟩ | ⟨j, hj, rfl, rfl, rfl⟩
          · rw [List.take_zero, unit_zero, hu1, hu2, Bool.and_true]; try rfl
          · rw [unit_succ m kk _ hj, hu1, hu2]; try rfl)
         have HNB := hide (show ub = false → validPl m p = false from fun e => HNO.out n hnl (by rw [hub] at e; exact e))
         have HNX := hide (show ub = true → ∀ j (hj : j < l.length), j < n + 1 → unitOk m kk l[j] (l.take j) = true from fun e => sound_next hs.out hnl (by rw [hub] at e; exact e))
         subst hA2
         clear hub hu1 hu2 hs hnl
         go_upto_region 10 with (fail)
         obtain ⟨w9, hw9⟩ : ∃ w9, w9 = (wr.alloc (.cells #[.int .i64 u1, .int .i64 u2] 87)) := ⟨_, rfl⟩
         obtain ⟨bx, hbx⟩ : ∃ bx, bx = wr.heap.size := ⟨_, rfl⟩
         have hbk : Blk w9 bx 87 #[.int .i64 u1, .int .i64 u2] := by rw [hw9, hbx]; exact Blk.new _ _ _
         have hs9 : MPB w #[.slice h.s m.sT.length h.sc, .slice h.f m.fT.length h.fc, .slice h.r m.rT.length h.rc, .slice h.m m.mT.length h.mc, .slice h.l m.lT.length h.lc, .slice h.i m.iT.length h.ic, .int .i64 m.dT, .int .i64 m.oT, .int .i64 m.vT, .int .i64 m.aT, .slice h.u m.uT.length h.uc] #[.slice (some ⟨b, off, none⟩) p.length c] w9 := by rw [hw9]; exact hS.out.grow ((Below.refl _ _).alloc (Nat.le_refl _) _)
         rw [← hw9, ← hbx]
         have HS9 := hide hs9
         have c0 : w9.cell? ⟨bx, 0, none⟩ = some (.int .i64 u1) := hbk.cell 0
         have c1 : w9.cell? ⟨bx, 1, none⟩ = some (.int .i64 u2) := hbk.cell 1
         have cl := hbk.lt
         clear x0 xb zk zb p0 l1 l2 hF y0 y1 hb' hw9 hbx hbk hs9
         obtain ⟨⟨a0, a1, a2, a3, a4, a5, a6, a7, a8, a9, a10⟩, p0, l1, l2⟩ := HS9.out.cells2
         obtain ⟨x0, xb, hF, zk, zb⟩ := HX.out _ HS9.out.b
         rw [HAI.out] at a5
         clear a0 a1 a2 a4 a6 a7 a8 a9 a10
         obtain ⟨e1, he1⟩ : ∃ e1, e1 = exI u1 m.mT.length := ⟨_, rfl⟩
         rw [← he1] at HUN
         have HEX := hide (fun W => (show Calls Tryz.prog 51 #[.int .i64 u1, .int .i64 (m.mT.length : Int)] W fun e w' => e = .returned (.bool e1) ∧ W = w' from by rw [he1]; exact exists_ref _ _ _))
         clear he1 hS
         have hU : undef = Value.tuple #[] := rfl
         rcases Nat.eq_zero_or_pos n with hz | hz
         · have HUK := hide (HUN.out true 0 (.inl ⟨hz, rfl⟩))
           subst hz
           clear HUN
           cases e1
           · first
               | (go_quiet ((go_at_call 51; exact quiet_left (HEX.out _))))
               | fail
             go_wp2_with fail
             go_ret
             exact ⟨by rw [HNB.out (by rw [HUK.out]; rfl)]; rfl, (HS9.out.grow (below_drawn (Below.refl _ _) _)).b⟩
           · first
               | (go_quiet ((go_at_call 51; exact quiet_left (HEX.out _))))
               | fail
             rcases hB2 (u2 != 0) with s0 | s0
             · have HST := hide (st_0 kk s0)
               go_wp2_with fail
               go_roundw
               case rel => exact ⟨0 + 1, by have := HNL.out; omega, by have := HNL.out; go_num, HNX.out (by rw [HUK.out, HST.out]; rfl), (HS9.out.grow (below_drawn (Below.refl _ _) _))⟩
               case measure => have := HNL.out; simp [intOf]; omega
             · rcases hB2 (u2 != 1) with s1 | s1
               · have HST := hide (st_1 kk s1)
                 go_wp2_with fail
                 go_roundw
                 case rel => exact ⟨0 + 1, by have := HNL.out; omega, by have := HNL.out; go_num, HNX.out (by rw [HUK.out, HST.out]; rfl), (HS9.out.grow (below_drawn (Below.refl _ _) _))⟩
                 case measure => have := HNL.out; simp [intOf]; omega
               · rcases hB2 (u2 != 2) with s2 | s2
                 · rcases hB2 (kk != 2) with s3 | s3
                   · have HST := hide (st_2 s2 s3)
                     go_wp2_with fail
                     go_roundw
                     case rel => exact ⟨0 + 1, by have := HNL.out; omega, by have := HNL.out; go_num, HNX.out (by rw [HUK.out, HST.out]; rfl), (HS9.out.grow (below_drawn (Below.refl _ _) _))⟩
                     case measure => have := HNL.out; simp [intOf]; omega
                   · have HST := hide (st_k s0 s1 s3)
                     go_wp2_with fail
                     go_ret
                     exact ⟨by rw [HNB.out (by rw [HUK.out, HST.out]; rfl)]; rfl, (HS9.out.grow (below_drawn (Below.refl _ _) _)).b⟩
                 · have HST := hide (st_n kk s0 s1 s2)
                   go_wp2_with fail
                   go_ret
                   exact ⟨by rw [HNB.out (by rw [HUK.out, HST.out]; rfl)]; rfl, (HS9.out.grow (below_drawn (Below.refl _ _) _)).b⟩
         · obtain ⟨q, rfl⟩ : ∃ q, n = q + 1 := ⟨n - 1, by omega⟩
           have hql : q < l.length := by have := HNL.out; omega
           obtain ⟨b2, off2, hA3, hb2, y2, y3⟩ := hF.at_ hql
           obtain ⟨rfl, rfl⟩ : b' = b2 ∧ off' = off2 := by simpa using hA3
           obtain ⟨v1, hv1⟩ : ∃ v, v = l[q].1 := ⟨_, rfl⟩
           rw [← hv1] at y2
           have HUK := hide (HUN.out (decide (v1 < u1)) v1 (.inr ⟨q, hql, rfl, hv1, rfl⟩))
           have hqI : (q : Int) < (l.length : Int) := by omega
           have hwq : IntKind.i64.wrap (q : Int) = q := IntWalk.i64_in _ (by omega)
           clear HUN hv1 hA3 y3 hz
           rcases hB2 (decide (u1 ≤ v1)) with g | g
           · rw [show decide (v1 < u1) = true by simp at g ⊢; exact g] at HUK
             cases e1
             · first
                 | (go_quiet ((go_at_call 51; exact quiet_left (HEX.out _))))
                 | fail
               go_wp2_with fail
               go_ret
               exact ⟨by rw [HNB.out (by rw [HUK.out]; rfl)]; rfl, (HS9.out.grow (below_drawn (Below.refl _ _) _)).b⟩
             · first
                 | (go_quiet ((go_at_call 51; exact quiet_left (HEX.out _))))
                 | fail
               rcases hB2 (u2 != 0) with s0 | s0
               · have HST := hide (st_0 kk s0)
                 go_wp2_with fail
                 go_roundw
                 case rel => exact ⟨q + 1 + 1, by have := HNL.out; omega, by have := HNL.out; go_num, HNX.out (by rw [HUK.out, HST.out]; rfl), (HS9.out.grow (below_drawn (Below.refl _ _) _))⟩
                 case measure => have := HNL.out; simp [intOf]; omega
               · rcases hB2 (u2 != 1) with s1 | s1
                 · have HST := hide (st_1 kk s1)
                   go_wp2_with fail
                   go_roundw
                   case rel => exact ⟨q + 1 + 1, by have := HNL.out; omega, by have := HNL.out; go_num, HNX.out (by rw [HUK.out, HST.out]; rfl), (HS9.out.grow (below_drawn (Below.refl _ _) _))⟩
                   case measure => have := HNL.out; simp [intOf]; omega
                 · rcases hB2 (u2 != 2) with s2 | s2
                   · rcases hB2 (kk != 2) with s3 | s3
                     · have HST := hide (st_2 s2 s3)
                       go_wp2_with fail
                       go_roundw
                       case rel => exact ⟨q + 1 + 1, by have := HNL.out; omega, by have := HNL.out; go_num, HNX.out (by rw [HUK.out, HST.out]; rfl), (HS9.out.grow (below_drawn (Below.refl _ _) _))⟩
                       case measure => have := HNL.out; simp [intOf]; omega
                     · have HST := hide (st_k s0 s1 s3)
                       go_wp2_with fail
                       go_ret
                       exact ⟨by rw [HNB.out (by rw [HUK.out, HST.out]; rfl)]; rfl, (HS9.out.grow (below_drawn (Below.refl _ _) _)).b⟩
                   · have HST := hide (st_n kk s0 s1 s2)
                     go_wp2_with fail
                     go_ret
                     exact ⟨by rw [HNB.out (by rw [HUK.out, HST.out]; rfl)]; rfl, (HS9.out.grow (below_drawn (Below.refl _ _) _)).b⟩
           · rw [show decide (v1 < u1) = false by simp at g ⊢; exact g] at HUK
             cases e1
             all_goals
              first
               | (go_quiet ((go_at_call 51; exact quiet_left (HEX.out _))))
               | fail
              go_wp2_with fail
              go_ret
              exact ⟨by rw [HNB.out (by rw [HUK.out]; rfl)]; rfl, (HS9.out.grow (below_drawn (Below.refl _ _) _)).b⟩
       · obtain rfl : n = l.length := by omega
         have HN2 := hide (HSO.out fun j hj => hs.out j hj hj)
         go_wp2_with fail
         go_roundw
         case rel => exact ⟨k + 1, by have := HLT.out; omega, by have := HLT.out; go_num, HN2, hS⟩
         case measure => have := HLT.out; simp [intOf]; omega
    · obtain rfl : k = p.length := by omega
      have HY := hide (HYES.out fun i hi => hs.out i hi hi)
      go_wp2_with fail
      go_ret
      exact ⟨by rw [HY.out]; rfl, hS.out.b⟩
end Go.Proofs.YtlnjaemdelnceaaGreatDoor
