/- A part of the claim: see its last text. -/
import Derived.Test.YtlnjaemdelnceaaGreatDoorUK27
import Derived.Test.YtlnjaemdelnceaaGreatDoorUK28

set_option maxRecDepth 100000
set_option maxHeartbeats 16000000
namespace Go.Proofs.YtlnjaemdelnceaaGreatDoor
open Go Go.RowKit Go.Proofs
structure SR (w : World) (M X : Array Value) (W : World) : Prop where
 m : Blk W w.heap.size 29 M
 x : Blk W (w.heap.size + 1) 32 X
 b : Below w.heap.size w W
theorem SR.start (w : World) (M X : Array Value) : SR w M X ((w.alloc (.cells M 29)).alloc (.cells X 32)) :=
 ⟨(Blk.new w _ M).alloc _, by simpa using Blk.new (w.alloc (.cells M 29)) 32 X, ((Below.refl _ _).alloc (Nat.le_refl _) _).alloc (by simp) _⟩
theorem SR.drew {w : World} {M X : Array Value} {W : World} (s : SR w M X W) : SR w M X W.drew := ⟨s.m, s.x, s.b.drew⟩
theorem SR.grow {w : World} {M X : Array Value} {W W2 : World} (s : SR w M X W) (hb : Below W.heap.size W W2) : SR w M X W2 := ⟨s.m.below hb s.m.lt, s.x.below hb s.x.lt, s.b.trans (hb.mono s.b.size)⟩
def FormR (w : World) (M X : Array Value) (f1 : Nat → Value) (f2 : Value) (v : Value) (W : World) : Prop :=
 ∃ Fb bx, v = .pointer (some ⟨Fb, 0, none⟩) ∧ SR w M X W ∧ Blk W Fb 75 #[f1 bx, f2]
theorem FormR.soon {w : World} {M X : Array Value} {f1 : Nat → Value} {f2 : Value} {W w1 : World} (s : SR w M X W) (hb : Below W.heap.size W w1) (bx : Nat) :
    FormR w M X f1 f2 (.pointer (some ⟨w1.heap.size, 0, none⟩)) (w1.alloc (.cells #[f1 bx, f2] 75)) :=
 ⟨w1.heap.size, bx, rfl, SR.grow (s.grow hb) ((Below.refl _ _).alloc (Nat.le_refl _) _), Blk.new _ _ _⟩
theorem FormR.late {w : World} {M X : Array Value} {f1 : Nat → Value} {f2 : Value} {W W0 w1 : World} (s : SR w M X W) (h0 : Below W.heap.size W W0) {Fb : Nat} (hFb : w.heap.size + 1 + 1 ≤ Fb) (hF : Blk W0 Fb 75 #[.nilFunc, .nilFunc]) (hb : Below W0.heap.size W0 w1) (bx : Nat) :
    FormR w M X f1 f2 (.pointer (some ⟨Fb, 0, none⟩)) ((w1.setCell ⟨Fb, 0, none⟩ (f1 bx)).setCell ⟨Fb, 1, none⟩ f2) := by
 have s1 := (s.grow h0).grow hb
 have hF1 := hF.below hb hF.lt
 refine ⟨Fb, bx, rfl, ⟨(s1.m.far (by simp; omega) _).far (by simp; omega) _, (s1.x.far (by simp; omega) _).far (by simp; omega) _, (s1.b.setCell (by simp; omega) _).setCell (by simp; omega) _⟩, ?_⟩
 simpa using (hF1.set_ 0 (f1 bx)).set_ 1 f2
theorem SR.kind (w : World) (M X : Array Value) : Blk (((w.alloc (.cells M 29)).alloc (.cells X 32)).alloc (.cells #[.nilFunc, .nilFunc] 75)) (w.heap.size + 1 + 1) 75 #[.nilFunc, .nilFunc] := by
 have := Blk.new ((w.alloc (.cells M 29)).alloc (.cells X 32)) 75 #[.nilFunc, .nilFunc]
 rwa [show ((w.alloc (.cells M 29)).alloc (.cells X 32)).heap.size = w.heap.size + 1 + 1 by simp] at this
structure FewM (m : Mod) : Prop where
 cm : m.mT.length ≤ 100
 cr : m.rT.length ≤ 100
 ce : m.fT.length ≤ 100
 cs : m.sT.length ≤ 100
theorem failuresR_k {m : Mod} {k : Nat} {x : RuleM} (hk : k < 4) (hkd : x.kind = (k : Int)) : failuresR m x = if allB k x = true then allF m else [(0, 0)] := by
 have h4 : k = 0 ∨ k = 1 ∨ k = 2 ∨ k = 3 := by omega
 unfold failuresR
 rcases h4 with rfl | rfl | rfl | rfl
 · have hkd : x.kind = 0 := hkd
   simp [hkd, allB]
 · have hkd : x.kind = 1 := hkd
   cases ha : x.always <;> simp [hkd, allB, ha]
 · have hkd : x.kind = 2 := hkd
   simp [hkd, allB]
 · have hkd : x.kind = 3 := hkd
   simp [hkd, allB]
theorem failures22_aux (h : MH) (m : Mod) (F : FewM m) (k : Nat) (hk : k < 4) (x : RuleM) (hkd : x.kind = (k : Int)) (A : Option Addr) (c : Nat) (w : World) (L : List (Int × Int)) (hT : allB k x = true → L = allF m) (hFl : allB k x = false → L = [(0, 0)]) :
    Calls Tryz.prog 14 #[.agg #[.slice h.s m.sT.length h.sc, .slice h.f m.fT.length h.fc, .slice h.r m.rT.length h.rc, .slice h.m m.mT.length h.mc, .slice h.l m.lT.length h.lc, .slice h.i m.iT.length h.ic, .int .i64 m.dT, .int .i64 m.oT, .int .i64 m.vT, .int .i64 m.aT, .slice h.u m.uT.length h.uc], .agg #[.int .i64 x.kind, .int .i64 x.item, .int .i64 x.other, .int .i64 x.n, .int .i64 x.by_, .bool x.always, .slice A x.machines.length c]] w (FailsR w L) := by
 have HAL := hide (fun W => all_any k hk x A c W)
 have HAF := hide (fun W => all_prog h m F.cm F.cr F.ce F.cs W)
 have H0 := hide (SR.start w #[.slice h.s m.sT.length h.sc, .slice h.f m.fT.length h.fc, .slice h.r m.rT.length h.rc, .slice h.m m.mT.length h.mc, .slice h.l m.lT.length h.lc, .slice h.i m.iT.length h.ic, .int .i64 m.dT, .int .i64 m.oT, .int .i64 m.vT, .int .i64 m.aT, .slice h.u m.uT.length h.uc] #[.int .i64 x.kind, .int .i64 x.item, .int .i64 x.other, .int .i64 x.n, .int .i64 x.by_, .bool x.always, .slice A x.machines.length c])
 obtain ⟨bA, hbA⟩ : ∃ b, b = allB k x := ⟨_, rfl⟩
 rw [← hbA] at HAL hT hFl
 have HT := hide hT
 have HFL := hide hFl
 simp only [hkd] at HAL H0 ⊢
 clear F hkd hbA hT hFl
 go_enter Tryz.func14, Tryz.ntmps14
 go_wp2_with fail
 go_cut [5, 6] (fun v ok wx => FormR w #[.slice h.s m.sT.length h.sc, .slice h.f m.fT.length h.fc, .slice h.r m.rT.length h.rc, .slice h.m m.mT.length h.mc, .slice h.l m.lT.length h.lc, .slice h.i m.iT.length h.ic, .int .i64 m.dT, .int .i64 m.oT, .int .i64 m.vT, .int .i64 m.aT, .slice h.u m.uT.length h.uc] #[.int .i64 (k : Int), .int .i64 x.item, .int .i64 x.other, .int .i64 x.n, .int .i64 x.by_, .bool x.always, .slice A x.machines.length c] (fun bx => .func (.func (hFn k)) #[] (hCap bx k)) (.func (.func (aFn k)) #[] #[]) v wx ∧ ok = .bool true)
 case first =>
  go_region_held3 (fun W => W.cell? ⟨w.heap.size + 1, 0, none⟩ = some (.int .i64 (k : Int))) (first | (go_keep; done) | (with_reducible exact hc0) | exact (World.cell?_of_block (Below.heap_setCell _ _ _ _ (by simp <;> omega))).trans ((World.cell?_of_block (Below.heap_setCell _ _ _ _ (by simp <;> omega))).trans hc0) | exact (World.cell?_alloc_lt _ _ _ (by simp <;> omega)).trans hc0 | exact H0.out.x.cell 0 | exact (SR.grow H0.out ((Below.refl _ _).alloc (Nat.le_refl _) _)).drew.x.cell 0 | exact (SR.grow H0.out.drew ((Below.refl _ _).alloc (Nat.le_refl _) _)).x.cell 0) ((go_at_call 38; refine (kinds22_prog _).mono ?_; rintro e w1 ⟨rfl, hF, hBx, hb⟩; have hlk := lookK_yes hF hk; have hlk2 := (fun o => lookK_yes (heap_keep2 hF o) hk); have hc0 := (hb.cell (p := ⟨w.heap.size + 1, 0, none⟩) (by simp <;> omega)).trans (by first | exact H0.out.x.cell 0 | exact (SR.grow H0.out ((Below.refl _ _).alloc (Nat.le_refl _) _)).drew.x.cell 0 | exact (SR.grow H0.out.drew ((Below.refl _ _).alloc (Nat.le_refl _) _)).x.cell 0); (try simp at hc0); (try simp at hlk); (try simp at hlk2); clear hF hBx; obtain ⟨hcA, hfA⟩ := bcell hb))
  all_goals
   go_wp2_with fail
   go_meet
   refine ⟨?_, rfl⟩
   clear hcA hfA
   first
    | exact FormR.soon H0.out.drew hb _
    | exact FormR.soon H0.out hb _
    | exact FormR.late H0.out (((Below.refl _ _).alloc (Nat.le_refl _) _).drew) (Nat.le_refl _) (SR.kind w _ _).drew hb _
    | exact FormR.late H0.out (((Below.refl _ _).alloc (Nat.le_refl _) _)) (Nat.le_refl _) (SR.kind w _ _) hb _
    | exact FormR.late H0.out.drew (((Below.refl _ _).alloc (Nat.le_refl _) _)) (Nat.le_refl _) (SR.kind w _ _) hb _
 case rest =>
  obtain ⟨⟨Fb, bx, rfl, hS, hF⟩, rfl⟩ := hcut
  have f1 := hF.cell 1
  have fl := hF.lt
  simp at f1
  obtain ⟨a0, a1, a2, a3, a4, a5, a6, a7, a8, a9, a10⟩ := MB.cells hS.m
  have b0 := hS.x.cell 0
  have b1 := hS.x.cell 1
  have b2 := hS.x.cell 2
  have b3 := hS.x.cell 3
  have b4 := hS.x.cell 4
  have b5 := hS.x.cell 5
  have b6 := hS.x.cell 6
  simp at b0 b1 b2 b3 b4 b5 b6
  have ml := hS.m.lt
  have xl := hS.x.lt
  have HSS := hide hS
  have hea := enter_a k hk
  clear hS hF
  cases bA
  · go_wp2_with ((with_reducible refine Calls.mono (HAL.out _) ?_); rintro e w3 ⟨rfl, hb3⟩; have HB3 := hide hb3; clear hb3)
    go_ret
    rw [HFL.out trivial]
    have hb3 := HSS.out.b.trans (HB3.out.mono HSS.out.b.size)
    have hl := World.ownsRow_lit (e := 37) (size := 2) w3 #[.int .i64 0, .int .i64 0] 1 hb3.size (by decide) (by simp)
    exact ⟨_, rfl, hl, hb3.alloc hb3.size _⟩
  · go_wp2_with (first
      | ((with_reducible refine Calls.mono (HAL.out _) ?_); rintro e w3 ⟨rfl, hb3⟩; have HB3 := hide hb3; have hS3 := HSS.out.grow hb3; obtain ⟨q0, q1, q2, q3, q4, q5, q6, q7, q8, q9, q10⟩ := MB.cells hS3.m; have ql := hS3.m.lt; have HS3 := hide hS3; clear hb3 hS3)
      | (go_at_call 39; refine (HAF.out _).mono ?_; rintro e w4 ⟨v, rfl, ho, hb4⟩; have HO := hide ho; have HB4 := hide hb4; clear ho hb4))
    go_ret
    rw [HT.out trivial]
    exact ⟨v, rfl, own_lowerF HO.out HS3.out.b.size, HS3.out.b.trans (HB4.out.mono HS3.out.b.size)⟩
theorem failures22_prog (h : MH) (m : Mod) (F : FewM m) (k : Nat) (hk : k < 4) (x : RuleM) (hkd : x.kind = (k : Int)) (A : Option Addr) (c : Nat) (w : World) :
    Calls Tryz.prog 14 #[.agg #[.slice h.s m.sT.length h.sc, .slice h.f m.fT.length h.fc, .slice h.r m.rT.length h.rc, .slice h.m m.mT.length h.mc, .slice h.l m.lT.length h.lc, .slice h.i m.iT.length h.ic, .int .i64 m.dT, .int .i64 m.oT, .int .i64 m.vT, .int .i64 m.aT, .slice h.u m.uT.length h.uc], .agg #[.int .i64 x.kind, .int .i64 x.item, .int .i64 x.other, .int .i64 x.n, .int .i64 x.by_, .bool x.always, .slice A x.machines.length c]] w (FailsR w (failuresR m x)) := by
 have hv := failuresR_k (m := m) hk hkd
 exact failures22_aux h m F k hk x hkd A c w _ (fun e => by rw [hv, if_pos e]) (fun e => by rw [hv, if_neg (by rw [e]; simp)])
def inDark (m : Mod) (n : Int) : Bool := decide (1 ≤ m.dT) && decide (domI m 4 n = m.dT)
def darkP (m : Mod) (p : PlaceM) (item : Int) : List Int := ((unitsP p item).map (·.1)).filter (inDark m)
def MA (bm : Nat) (M : Array Value) (W V : World) : Prop := Blk V bm 29 M ∧ Below W.heap.size W V
theorem MA.drew {bm : Nat} {M : Array Value} {W V : World} (s : MA bm M W V) : MA bm M W V.drew := ⟨s.1.drew, s.2.drew⟩
theorem MA.grow {bm : Nat} {M : Array Value} {W V V2 : World} (s : MA bm M W V) (hb : Below V.heap.size V V2) : MA bm M W V2 := ⟨s.1.below hb s.1.lt, s.2.trans (hb.mono s.2.size)⟩
theorem MA.cells {bm : Nat} {h : MH} {m : Mod} {w W : World} (s : MA bm #[.slice h.s m.sT.length h.sc, .slice h.f m.fT.length h.fc, .slice h.r m.rT.length h.rc, .slice h.m m.mT.length h.mc, .slice h.l m.lT.length h.lc, .slice h.i m.iT.length h.ic, .int .i64 m.dT, .int .i64 m.oT, .int .i64 m.vT, .int .i64 m.aT, .slice h.u m.uT.length h.uc] w W) : W.cell? ⟨bm, 0, none⟩ = some (.slice h.s m.sT.length h.sc) ∧ W.cell? ⟨bm, 1, none⟩ = some (.slice h.f m.fT.length h.fc) ∧ W.cell? ⟨bm, 2, none⟩ = some (.slice h.r m.rT.length h.rc) ∧ W.cell? ⟨bm, 3, none⟩ = some (.slice h.m m.mT.length h.mc) ∧ W.cell? ⟨bm, 4, none⟩ = some (.slice h.l m.lT.length h.lc) ∧ W.cell? ⟨bm, 5, none⟩ = some (.slice h.i m.iT.length h.ic) ∧ W.cell? ⟨bm, 6, none⟩ = some (.int .i64 m.dT) ∧ W.cell? ⟨bm, 7, none⟩ = some (.int .i64 m.oT) ∧ W.cell? ⟨bm, 8, none⟩ = some (.int .i64 m.vT) ∧ W.cell? ⟨bm, 9, none⟩ = some (.int .i64 m.aT) ∧ W.cell? ⟨bm, 10, none⟩ = some (.slice h.u m.uT.length h.uc) := MB.cells s.1
theorem dark1_no (h : MH) (m : Mod) (x : Int) (bm : Nat) (W : World) (hM : Blk W bm 29 #[.slice h.s m.sT.length h.sc, .slice h.f m.fT.length h.fc, .slice h.r m.rT.length h.rc, .slice h.m m.mT.length h.mc, .slice h.l m.lT.length h.lc, .slice h.i m.iT.length h.ic, .int .i64 m.dT, .int .i64 m.oT, .int .i64 m.vT, .int .i64 m.aT, .slice h.u m.uT.length h.uc]) (hd : decide (m.dT < 1) = true) :
    Calls Tryz.prog 78 #[.int .i64 x, .pointer (some ⟨bm, 0, none⟩)] W fun e w' => e = .returned (.bool true) ∧ Below W.heap.size W w' := by
 have x6 := hM.cell 6
 have ml := hM.lt
 simp at x6
 have hU : undef = Value.tuple #[] := rfl
 clear hM
 go_enter Tryz.func78, Tryz.ntmps78
 go_wp2_with fail
 go_quiet (fail)
 go_wp2_with fail
 go_ret
 exact ⟨by rfl, below_drawn (Below.refl _ _) _⟩
theorem dark1_yes (h : MH) (m : Mod) (x : Int) (bm B : Nat) (W : World) (hM : Blk W bm 29 #[.slice h.s m.sT.length h.sc, .slice h.f m.fT.length h.fc, .slice h.r m.rT.length h.rc, .slice h.m m.mT.length h.mc, .slice h.l m.lT.length h.lc, .slice h.i m.iT.length h.ic, .int .i64 m.dT, .int .i64 m.oT, .int .i64 m.vT, .int .i64 m.aT, .slice h.u m.uT.length h.uc]) (d : MD W B h m) (hB : B ≤ W.heap.size) (hd : decide (m.dT < 1) = false) :
    Calls Tryz.prog 78 #[.int .i64 x, .pointer (some ⟨bm, 0, none⟩)] W fun e w' => e = .returned (.bool (domI m 4 x != m.dT)) ∧ Below W.heap.size W w' := by
 have HS := hide (show MA bm #[.slice h.s m.sT.length h.sc, .slice h.f m.fT.length h.fc, .slice h.r m.rT.length h.rc, .slice h.m m.mT.length h.mc, .slice h.l m.lT.length h.lc, .slice h.i m.iT.length h.ic, .int .i64 m.dT, .int .i64 m.oT, .int .i64 m.vT, .int .i64 m.aT, .slice h.u m.uT.length h.uc] W W from ⟨hM, Below.refl _ _⟩)
 have HD := hide (fun V (hb : Below W.heap.size W V) => domain_prog h m 4 x V ((d.more hB).grow hb))
 have hU : undef = Value.tuple #[] := rfl
 clear hM d hB
 go_enter Tryz.func78, Tryz.ntmps78
 go_wp2_with fail
 first
  | (go_region_held3 (fun V => (V.cell? ⟨bm, 0, none⟩ = some (.slice h.s m.sT.length h.sc) ∧ V.cell? ⟨bm, 1, none⟩ = some (.slice h.f m.fT.length h.fc) ∧ V.cell? ⟨bm, 2, none⟩ = some (.slice h.r m.rT.length h.rc) ∧ V.cell? ⟨bm, 3, none⟩ = some (.slice h.m m.mT.length h.mc) ∧ V.cell? ⟨bm, 4, none⟩ = some (.slice h.l m.lT.length h.lc) ∧ V.cell? ⟨bm, 5, none⟩ = some (.slice h.i m.iT.length h.ic) ∧ V.cell? ⟨bm, 6, none⟩ = some (.int .i64 m.dT) ∧ V.cell? ⟨bm, 7, none⟩ = some (.int .i64 m.oT) ∧ V.cell? ⟨bm, 8, none⟩ = some (.int .i64 m.vT) ∧ V.cell? ⟨bm, 9, none⟩ = some (.int .i64 m.aT) ∧ V.cell? ⟨bm, 10, none⟩ = some (.slice h.u m.uT.length h.uc)) ∧ MA bm #[.slice h.s m.sT.length h.sc, .slice h.f m.fT.length h.fc, .slice h.r m.rT.length h.rc, .slice h.m m.mT.length h.mc, .slice h.l m.lT.length h.lc, .slice h.i m.iT.length h.ic, .int .i64 m.dT, .int .i64 m.oT, .int .i64 m.vT, .int .i64 m.aT, .slice h.u m.uT.length h.uc] W V) ((with_reducible (first | (go_keep; done) | exact ⟨MA.cells HS.out.drew, HS.out.drew⟩ | exact ⟨MA.cells c7, c7⟩ | (have hH := (by assumption : _ ∧ MA _ _ _ _); exact ⟨MA.cells (MA.drew hH.2), MA.drew hH.2⟩)))) ((go_at_call 79; have hbw := HS.out.drew.2; (with_reducible refine (HD.out _ hbw).mono ?_); rintro e w1 ⟨rfl, hb1⟩; have c7 := MA.grow HS.out.drew hb1; clear hb1)))
  | fail
 all_goals
  go_wp2_with fail
  go_ret
  exact ⟨by rfl, c7.2⟩
theorem dark1_prog (h : MH) (m : Mod) (x : Int) (bm B : Nat) (W : World) (hM : Blk W bm 29 #[.slice h.s m.sT.length h.sc, .slice h.f m.fT.length h.fc, .slice h.r m.rT.length h.rc, .slice h.m m.mT.length h.mc, .slice h.l m.lT.length h.lc, .slice h.i m.iT.length h.ic, .int .i64 m.dT, .int .i64 m.oT, .int .i64 m.vT, .int .i64 m.aT, .slice h.u m.uT.length h.uc]) (d : MD W B h m) (hB : B ≤ W.heap.size) :
    Calls Tryz.prog 78 #[.int .i64 x, .pointer (some ⟨bm, 0, none⟩)] W fun e w' => e = .returned (.bool (!inDark m x)) ∧ Below W.heap.size W w' := by
 have hB2 : ∀ b : Bool, b = false ∨ b = true := fun b => by cases b <;> simp
 rcases hB2 (decide (m.dT < 1)) with hd | hd
 · have e : (!inDark m x) = (domI m 4 x != m.dT) := by
     have h1 : 1 ≤ m.dT := by have := of_decide_eq_false hd; omega
     unfold inDark
     rw [decide_eq_true h1, Bool.true_and]
     by_cases h2 : domI m 4 x = m.dT <;> simp [h2]
   rw [e]
   exact dark1_yes h m x bm B W hM d hB hd
 · have e : (!inDark m x) = true := by
     have h1 : ¬ 1 ≤ m.dT := by have := of_decide_eq_true hd; omega
     unfold inDark
     rw [decide_eq_false h1]; rfl
   rw [e]
   exact dark1_no h m x bm W hM hd
theorem dark_del (h : MH) (m : Mod) (l : List Int) (v1 : Value) (bm : Nat) (w wb w1 : World) (hb : Below w.heap.size w wb) (hM : Blk wb bm 29 #[.slice h.s m.sT.length h.sc, .slice h.f m.fT.length h.fc, .slice h.r m.rT.length h.rc, .slice h.m m.mT.length h.mc, .slice h.l m.lT.length h.lc, .slice h.i m.iT.length h.ic, .int .i64 m.dT, .int .i64 m.oT, .int .i64 m.vT, .int .i64 m.aT, .slice h.u m.uT.length h.uc]) (d : MD w w.heap.size h m)
    (hb1 : Below wb.heap.size wb w1) (ho1 : OwnI wb.heap.size w1 v1 l) (hl : l.length ≤ 1000) :
    Calls Tryz.prog 77 #[v1, .func (.func 78) #[] #[.pointer (some ⟨bm, 0, none⟩)]] w1 fun e w' => ∃ v', e = .returned v' ∧ OwnI wb.heap.size w' v' (l.filter (inDark m)) ∧ Below wb.heap.size w1 w' := by
 refine (deleteFunc_own 78 #[.pointer (some ⟨bm, 0, none⟩)] (fun _ _ => by kernel_rfl) (fun x => !inDark m x) v1 l w1 ho1 (by omega) (fun x W L hL hW => ?_)).mono ?_
 · have hLb := (ho1.lt L hL).1
   have hbW : Below wb.heap.size w1 W := ⟨hW.os, hW.tape, hW.output, hW.size, fun k hk => hW.block k (by have := hb1.size; omega) (by omega)⟩
   have hbx : Below wb.heap.size wb W := hb1.trans hbW
   exact dark1_prog h m x bm w.heap.size W (hM.below hbx hM.lt) ((d.below hb).below (hbx.mono hb.size)) (by have := hb.size; have := hbx.size; omega)
 · rintro e w2 ⟨v', rfl, ho, hb2⟩
   have e : (l.filter fun x => !(!inDark m x)) = l.filter (inDark m) := by simp
   rw [e] at ho
   exact ⟨v', rfl, ho, hb2.mono (by have := hb1.size; omega)⟩
theorem rdark_prog (h : MH) (m : Mod) (A : Option Addr) (c : Nat) (p : PlaceM) (item : Int) (w : World) (d : MD w w.heap.size h m) (hp : PR w w.heap.size A p) (hl : p.length ≤ 1000) (hul : (unitsP p item).length ≤ 1000) :
    Calls Tryz.prog 41 #[.agg #[.slice h.s m.sT.length h.sc, .slice h.f m.fT.length h.fc, .slice h.r m.rT.length h.rc, .slice h.m m.mT.length h.mc, .slice h.l m.lT.length h.lc, .slice h.i m.iT.length h.ic, .int .i64 m.dT, .int .i64 m.oT, .int .i64 m.vT, .int .i64 m.aT, .slice h.u m.uT.length h.uc], .agg #[.slice A p.length c], .int .i64 item] w (IntsR w (darkP m p item)) := by
 have hb0 : Below w.heap.size w ((w.alloc (.cells #[.slice h.s m.sT.length h.sc, .slice h.f m.fT.length h.fc, .slice h.r m.rT.length h.rc, .slice h.m m.mT.length h.mc, .slice h.l m.lT.length h.lc, .slice h.i m.iT.length h.ic, .int .i64 m.dT, .int .i64 m.oT, .int .i64 m.vT, .int .i64 m.aT, .slice h.u m.uT.length h.uc] 29)).alloc (.cells #[.slice A p.length c] 35)) := ((Below.refl w.heap.size w).alloc (Nat.le_refl _) _).alloc (by simp) _
 have HB := hide hb0
 have HM := hide (everything_prog A c p item _ (hp.grow hb0) hl hul)
 have HSD := hide (fun v1 w1 => dark_del h m ((unitsP p item).map (·.1)) v1 w.heap.size w _ w1 hb0 ((Blk.new w _ _).alloc _) d)
 have HML := hide (show ((unitsP p item).map (·.1)).length ≤ 1000 by rw [List.length_map]; exact hul)
 have hV : darkP m p item = ((unitsP p item).map (·.1)).filter (inDark m) := rfl
 rw [hV]
 obtain ⟨L, hL⟩ : ∃ L, L = (unitsP p item).map (·.1) := ⟨_, rfl⟩
 rw [← hL] at HM HSD HML ⊢
 clear hb0 d hp hV hL
 go_enter Tryz.func41, Tryz.ntmps41
 go_wp2_with (first
  | (go_at_call 47; refine HM.out.mono ?_; rintro e w1 ⟨v1, rfl, ho1, hb1⟩; have HDF := hide (HSD.out v1 w1 hb1 ho1 HML.out); have HB1 := hide hb1; obtain ⟨A1, c1, rfl, _⟩ := ho1.form; clear ho1 hb1)
  | (go_at_call 77; refine HDF.out.mono ?_; rintro e w2 ⟨v2, rfl, ho2, hb2⟩; have HO2 := hide ho2; have HB2 := hide hb2; clear ho2 hb2))
 go_ret
 refine ⟨v2, rfl, own_lowerI HO2.out HB.out.size, (HB.out.trans (HB1.out.mono HB.out.size)).trans (HB2.out.mono HB.out.size)⟩
theorem darkP_len (m : Mod) (p : PlaceM) (item : Int) : (darkP m p item).length ≤ (unitsP p item).length := by
 unfold darkP
 have := List.length_filter_le (inDark m) ((unitsP p item).map (·.1))
 simpa using this
def goneB (p : PlaceM) (item n : Int) : Bool := !decide (n ∈ (unitsP p item).map (·.1))
theorem order1_prog (n : Int) (x : RuleM) (A : Option Addr) (c : Nat) (Ap : Option Addr) (cp : Nat) (q : PlaceM) (bp bx : Nat) (W : World) (hP : Blk W bp 35 #[.slice Ap q.length cp]) (hX : Blk W bx 32 #[.int .i64 x.kind, .int .i64 x.item, .int .i64 x.other, .int .i64 x.n, .int .i64 x.by_, .bool x.always, .slice A x.machines.length c])
    (hq : PR W W.heap.size Ap q) (hl : q.length ≤ 1000) (hul : (unitsP q x.other).length ≤ 1000) :
    Calls Tryz.prog 45 #[.int .i64 n, .pointer (some ⟨bp, 0, none⟩), .pointer (some ⟨bx, 0, none⟩)] W fun e w' => e = .returned (.bool (goneB q x.other n)) ∧ Below W.heap.size W w' := by
 have p0 := hP.cell 0
 have x2 := hX.cell 2
 simp at p0 x2
 have pl := hP.lt
 have xl := hX.lt
 have HE := hide (everything_prog Ap cp q x.other W hq hl hul)
 obtain ⟨L, hL⟩ : ∃ L, L = (unitsP q x.other).map (·.1) := ⟨_, rfl⟩
 have HLL := hide (show L.length ≤ 1000 by rw [hL, List.length_map]; exact hul)
 have HV := hide (show goneB q x.other n = !decide (n ∈ L) by rw [hL]; rfl)
 rw [← hL] at HE
 clear hP hX hq hL
 go_enter Tryz.func45, Tryz.ntmps45
 go_wp2_with (first
  | (go_at_call 47; refine HE.out.mono ?_; rintro e w1 ⟨v, rfl, ho, hb⟩; obtain ⟨A1, c1, rfl, hc1, hI⟩ := ho.form; have HC := hide (contains_ints A1 c1 L n w1 (by have := HLL.out; omega) hI); have HB := hide hb; clear hb ho hI)
  | (go_at_call 46; refine HC.out.mono ?_; rintro e w2 ⟨rfl, rfl⟩))
 go_ret
 exact ⟨by rw [HV.out]; rfl, HB.out⟩
def orderB (m : Mod) (x : RuleM) (p q : PlaceM) : Bool := if x.kind = 4 ∧ darkP m p x.item ≠ [] then !((darkP m p x.other).any (goneB q x.other)) else true
structure O4 (w : World) (M X P Q : Array Value) (W : World) : Prop where
 m : Blk W w.heap.size 29 M
 x : Blk W (w.heap.size + 1) 32 X
 p : Blk W (w.heap.size + 1 + 1) 35 P
 q : Blk W (w.heap.size + 1 + 1 + 1) 35 Q
 b : Below w.heap.size w W
theorem O4.start (w : World) (M X P Q : Array Value) : O4 w M X P Q ((((w.alloc (.cells M 29)).alloc (.cells X 32)).alloc (.cells P 35)).alloc (.cells Q 35)) := by
 obtain ⟨w1, e1⟩ : ∃ w1, w1 = w.alloc (.cells M 29) := ⟨_, rfl⟩
 obtain ⟨w2, e2⟩ : ∃ w2, w2 = w1.alloc (.cells X 32) := ⟨_, rfl⟩
 obtain ⟨w3, e3⟩ : ∃ w3, w3 = w2.alloc (.cells P 35) := ⟨_, rfl⟩
 obtain ⟨w4, e4⟩ : ∃ w4, w4 = w3.alloc (.cells Q 35) := ⟨_, rfl⟩
 have s1 : w1.heap.size = w.heap.size + 1 := by rw [e1]; simp
 have s2 : w2.heap.size = w.heap.size + 1 + 1 := by rw [e2]; simp [s1]
 have s3 : w3.heap.size = w.heap.size + 1 + 1 + 1 := by rw [e3]; simp [s2]
 have b1 : Blk w1 w.heap.size 29 M := by rw [e1]; exact Blk.new _ _ _
 have b2 : Blk w2 (w.heap.size + 1) 32 X := by rw [e2, ← s1]; exact Blk.new _ _ _
 have b3 : Blk w3 (w.heap.size + 1 + 1) 35 P := by rw [e3, ← s2]; exact Blk.new _ _ _
 have b4 : Blk w4 (w.heap.size + 1 + 1 + 1) 35 Q := by rw [e4, ← s3]; exact Blk.new _ _ _
 rw [← e1, ← e2, ← e3, ← e4]
 exact ⟨by rw [e4, e3, e2]; exact ((b1.alloc _).alloc _).alloc _, by rw [e4, e3]; exact (b2.alloc _).alloc _, by rw [e4]; exact b3.alloc _, b4, by
  rw [e4, e3, e2, e1]
  exact ((((Below.refl w.heap.size w).alloc (Nat.le_refl _) _).alloc (by simp) _).alloc (by simp <;> omega) _).alloc (by simp <;> omega) _⟩
theorem O4.grow {w : World} {M X P Q : Array Value} {W W2 : World} (s : O4 w M X P Q W) (hb : Below W.heap.size W W2) : O4 w M X P Q W2 := ⟨s.m.below hb s.m.lt, s.x.below hb s.x.lt, s.p.below hb s.p.lt, s.q.below hb s.q.lt, s.b.trans (hb.mono s.b.size)⟩
theorem order_prog (h : MH) (m : Mod) (x : RuleM) (A : Option Addr) (c : Nat) (Ap Aq : Option Addr) (cp cq : Nat) (p q : PlaceM) (w : World) (d : MD w w.heap.size h m) (hp : PR w w.heap.size Ap p) (hq : PR w w.heap.size Aq q)
    (hlp : p.length ≤ 1000) (hlq : q.length ≤ 1000) (u1 : (unitsP p x.item).length ≤ 1000) (u2 : (unitsP p x.other).length ≤ 1000) (u3 : (unitsP q x.other).length ≤ 1000) :
    Calls Tryz.prog 21 #[.agg #[.slice h.s m.sT.length h.sc, .slice h.f m.fT.length h.fc, .slice h.r m.rT.length h.rc, .slice h.m m.mT.length h.mc, .slice h.l m.lT.length h.lc, .slice h.i m.iT.length h.ic, .int .i64 m.dT, .int .i64 m.oT, .int .i64 m.vT, .int .i64 m.aT, .slice h.u m.uT.length h.uc], .agg #[.int .i64 x.kind, .int .i64 x.item, .int .i64 x.other, .int .i64 x.n, .int .i64 x.by_, .bool x.always, .slice A x.machines.length c], .agg #[.slice Ap p.length cp], .agg #[.slice Aq q.length cq]] w (AnsR w (.bool (orderB m x p q))) := by
 have HS := hide (O4.start w #[.slice h.s m.sT.length h.sc, .slice h.f m.fT.length h.fc, .slice h.r m.rT.length h.rc, .slice h.m m.mT.length h.mc, .slice h.l m.lT.length h.lc, .slice h.i m.iT.length h.ic, .int .i64 m.dT, .int .i64 m.oT, .int .i64 m.vT, .int .i64 m.aT, .slice h.u m.uT.length h.uc] #[.int .i64 x.kind, .int .i64 x.item, .int .i64 x.other, .int .i64 x.n, .int .i64 x.by_, .bool x.always, .slice A x.machines.length c] #[.slice Ap p.length cp] #[.slice Aq q.length cq])
 have HD1 := hide (fun W (hW : Below w.heap.size w W) => rdark_prog h m Ap cp p x.item W (d.grow hW) (hp.grow hW) hlp u1)
 have HD2 := hide (fun W (hW : Below w.heap.size w W) => rdark_prog h m Ap cp p x.other W (d.grow hW) (hp.grow hW) hlp u2)
 have HO1 := hide (fun W (hS : O4 w #[.slice h.s m.sT.length h.sc, .slice h.f m.fT.length h.fc, .slice h.r m.rT.length h.rc, .slice h.m m.mT.length h.mc, .slice h.l m.lT.length h.lc, .slice h.i m.iT.length h.ic, .int .i64 m.dT, .int .i64 m.oT, .int .i64 m.vT, .int .i64 m.aT, .slice h.u m.uT.length h.uc] #[.int .i64 x.kind, .int .i64 x.item, .int .i64 x.other, .int .i64 x.n, .int .i64 x.by_, .bool x.always, .slice A x.machines.length c] #[.slice Ap p.length cp] #[.slice Aq q.length cq] W) n => order1_prog n x A c Aq cq q _ _ W hS.q hS.x (hq.grow hS.b) hlq u3)
 obtain ⟨L, hL⟩ : ∃ L, L = darkP m p x.item := ⟨_, rfl⟩
 obtain ⟨K, hK⟩ : ∃ K, K = darkP m p x.other := ⟨_, rfl⟩
 have HLL := hide (show L.length ≤ 1000 ∧ K.length ≤ 1000 from ⟨by rw [hL]; have := darkP_len m p x.item; omega, by rw [hK]; have := darkP_len m p x.other; omega⟩)
 have hV : orderB m x p q = if x.kind = 4 ∧ L ≠ [] then !(K.any (goneB q x.other)) else true := by rw [hL, hK]; rfl
 rw [hV]
 rw [← hL] at HD1
 rw [← hK] at HD2
 clear hV hL hK d hp hq
 have hU : undef = Value.tuple #[] := rfl
 have hB2 : ∀ b : Bool, b = false ∨ b = true := fun b => by cases b <;> simp
 have hls := HLL.out
 rcases hB2 (x.kind != 4) with g | g
 · rcases hB2 ((L.length : Int) == 0) with g2 | g2
   · have HV := hide (show (if x.kind = 4 ∧ L ≠ [] then !(K.any (goneB q x.other)) else true) = !(K.any (goneB q x.other)) by
       rw [if_pos ⟨by simpa using g, fun e => by rw [e] at g2; simp at g2⟩])
     rw [HV.out]
     go_enter Tryz.func21, Tryz.ntmps21
     go_wp2_with (first
      | (go_at_call 41; have hbw := HS.out.b; (with_reducible refine (HD1.out _ hbw).mono ?_); rintro e w1 ⟨v, rfl, ho, hb⟩; obtain ⟨A1, c1, rfl, hc1, hI⟩ := ho.form; have hS := HS.out.grow hb; have x4 := hS.x.cell 2; have q4 := hS.p.cell 0; simp at x4 q4; have l1 := hS.m.lt; have l2 := hS.x.lt; have l3 := hS.p.lt; have l4 := hS.q.lt; obtain ⟨a0, a1, a2, a3, a4, a5, a6, a7, a8, a9, a10⟩ := MB.cells hS.m; have HS1 := hide hS; clear hb ho hI hS)
      | (go_at_call 41; have hbw := HS1.out.b; (with_reducible refine (HD2.out _ hbw).mono ?_); rintro e w2 ⟨v2, rfl, ho, hb⟩; obtain ⟨A2, c2, rfl, hc2, hI⟩ := ho.form; have HS2 := hide (HS1.out.grow hb)
         have HC := hide (containsFunc_ints 45 #[.pointer (some ⟨w.heap.size + 1 + 1 + 1, 0, none⟩), .pointer (some ⟨w.heap.size + 1, 0, none⟩)] (fun _ _ => by kernel_rfl) (goneB q x.other) A2 c2 K w2 (by omega) hI (fun k hk W hW => HO1.out W (HS2.out.grow hW) _))
         clear hb ho hI)
      | (go_at_call 48; (with_reducible refine HC.out.mono ?_); rintro e w3 ⟨rfl, hb3⟩; have HB3 := hide (HS2.out.b.trans (hb3.mono HS2.out.b.size)); clear hb3))
     go_ret
     exact ⟨rfl, HB3.out⟩
   · have HV := hide (show (if x.kind = 4 ∧ L ≠ [] then !(K.any (goneB q x.other)) else true) = true by
       rw [if_neg (fun e => e.2 (List.eq_nil_of_length_eq_zero (by simpa using g2)))])
     rw [HV.out]
     go_enter Tryz.func21, Tryz.ntmps21
     go_wp2_with (go_at_call 41; have hbw := HS.out.b; (with_reducible refine (HD1.out _ hbw).mono ?_); rintro e w1 ⟨v, rfl, ho, hb⟩; obtain ⟨A1, c1, rfl, hc1, hI⟩ := ho.form; have HS1 := hide (HS.out.grow hb); clear hb ho hI)
     go_ret
     exact ⟨rfl, HS1.out.b⟩
 · have HV := hide (show (if x.kind = 4 ∧ L ≠ [] then !(K.any (goneB q x.other)) else true) = true by
     rw [if_neg (fun e => by rw [e.1] at g; simp at g)])
   rw [HV.out]
   go_enter Tryz.func21, Tryz.ntmps21
   go_wp2_with fail
   go_ret
   exact ⟨rfl, HS.out.b⟩
end Go.Proofs.YtlnjaemdelnceaaGreatDoor
