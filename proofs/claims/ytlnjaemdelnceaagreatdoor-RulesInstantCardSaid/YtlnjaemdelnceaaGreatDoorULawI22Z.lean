/- A part of the claim: see its last text. -/
import Derived.Test.YtlnjaemdelnceaaGreatDoorULaw22cZ

set_option maxRecDepth 100000
set_option maxHeartbeats 16000000
namespace Go.Proofs.YtlnjaemdelnceaaGreatDoor
open Go Go.RowKit Go.Proofs
structure I2 (w : World) (M P : Array Value) (W : World) : Prop where
 m : Blk W w.heap.size 29 M
 p : Blk W (w.heap.size + 1) 35 P
 b : Below w.heap.size w W
theorem I2.start (w : World) (M P : Array Value) : I2 w M P ((w.alloc (.cells M 29)).alloc (.cells P 35)) := by
 refine ⟨(Blk.new w _ _).alloc _, ?_, ((Below.refl _ _).alloc (Nat.le_refl _) _).alloc (by simp) _⟩
 have := Blk.new (w.alloc (.cells M 29)) 35 P
 simpa using this
theorem I2.grow {w : World} {M P : Array Value} {W W2 : World} (s : I2 w M P W) (hb : Below W.heap.size W W2) : I2 w M P W2 := ⟨s.m.below hb s.m.lt, s.p.below hb s.p.lt, s.b.trans (hb.mono s.b.size)⟩
theorem I2.drew {w : World} {M P : Array Value} {W : World} (s : I2 w M P W) : I2 w M P W.drew := s.grow (Below.refl _ W).drew
theorem I2.cells {w : World} {h : MH} {m : Mod} {A : Option Addr} {n c : Nat} {W : World} (s : I2 w #[.slice h.s m.sT.length h.sc, .slice h.f m.fT.length h.fc, .slice h.r m.rT.length h.rc, .slice h.m m.mT.length h.mc, .slice h.l m.lT.length h.lc, .slice h.i m.iT.length h.ic, .int .i64 m.dT, .int .i64 m.oT, .int .i64 m.vT, .int .i64 m.aT, .slice h.u m.uT.length h.uc] #[.slice A n c] W) : (W.cell? ⟨w.heap.size, 0, none⟩ = some (.slice h.s m.sT.length h.sc) ∧ W.cell? ⟨w.heap.size, 1, none⟩ = some (.slice h.f m.fT.length h.fc) ∧ W.cell? ⟨w.heap.size, 2, none⟩ = some (.slice h.r m.rT.length h.rc) ∧ W.cell? ⟨w.heap.size, 3, none⟩ = some (.slice h.m m.mT.length h.mc) ∧ W.cell? ⟨w.heap.size, 4, none⟩ = some (.slice h.l m.lT.length h.lc) ∧ W.cell? ⟨w.heap.size, 5, none⟩ = some (.slice h.i m.iT.length h.ic) ∧ W.cell? ⟨w.heap.size, 6, none⟩ = some (.int .i64 m.dT) ∧ W.cell? ⟨w.heap.size, 7, none⟩ = some (.int .i64 m.oT) ∧ W.cell? ⟨w.heap.size, 8, none⟩ = some (.int .i64 m.vT) ∧ W.cell? ⟨w.heap.size, 9, none⟩ = some (.int .i64 m.aT) ∧ W.cell? ⟨w.heap.size, 10, none⟩ = some (.slice h.u m.uT.length h.uc)) ∧ W.cell? ⟨w.heap.size + 1, 0, none⟩ = some (.slice A n c) := ⟨MB.cells s.m, s.p.cell 0⟩
theorem rulesInstant_walk (h : MH) (m : Mod) (Ap : Option Addr) (cp : Nat) (p : PlaceM) (time : Int) (w : World) (d : MD w w.heap.size h m)
    (hP : PR w w.heap.size Ap p) (hpl : p.length ≤ 9223372036854775807) (ha : Asc w) (hpw : Pow w) :
    Calls Tryz.prog 4 #[.agg #[.slice h.s m.sT.length h.sc, .slice h.f m.fT.length h.fc, .slice h.r m.rT.length h.rc, .slice h.m m.mT.length h.mc, .slice h.l m.lT.length h.lc, .slice h.i m.iT.length h.ic, .int .i64 m.dT, .int .i64 m.oT, .int .i64 m.vT, .int .i64 m.aT, .slice h.u m.uT.length h.uc], .agg #[.slice Ap p.length cp], .int .i64 time] w (AnsR w (.bool true)) := by
 have hS := I2.start w #[.slice h.s m.sT.length h.sc, .slice h.f m.fT.length h.fc, .slice h.r m.rT.length h.rc, .slice h.m m.mT.length h.mc, .slice h.l m.lT.length h.lc, .slice h.i m.iT.length h.ic, .int .i64 m.dT, .int .i64 m.oT, .int .i64 m.vT, .int .i64 m.aT, .slice h.u m.uT.length h.uc] #[.slice Ap p.length cp]
 have HAW := hide (awake22 _ (ha.below (Nat.le_refl _) hS.b) (hpw.below (Nat.le_refl _) hS.b))
 have HLA := hide (fun W (hW : Below w.heap.size w W) => large_oneD h m Ap cp p W (d.grow hW) hpl (hP.grow hW))
 have HI1 := hide (fun (hm : FewL m) (hp1 : p.length ≤ 24) (hp2 : ∀ l ∈ p, l.length ≤ 24) W (hW : Below w.heap.size w W) => instant_prog h m Ap cp p time W (d.grow hW) hm.m (by have := hm.lu; omega) (md_rules d) (hP.grow hW) (by omega) (small_units hp2))
 have HI2 := hide (fun (hm : FewL m) (hp1 : p.length ≤ 24) (hp2 : ∀ l ∈ p, l.length ≤ 24) W (hW : Below w.heap.size w W) => instant_ref h m Ap cp p time W (d.grow hW) hm.m (by have := hm.lu; omega) (md_rules d) (hP.grow hW) (by omega) (small_units hp2))
 have HS := hide hS
 clear d hP ha hpw hS
 obtain ⟨L, hL⟩ : ∃ L, L = instantM m p time := ⟨_, rfl⟩
 have HLL := hide (show FewL m → L.length ≤ 100000 from fun hm => by rw [hL]; have h1 := instTo_len hm.m p time m.uT.length; have h2 := hm.lu; have h3 : m.uT.length * 401 ≤ 48 * 401 := Nat.mul_le_mul_right _ h2; unfold instantM; omega)
 rw [← hL] at HI1 HI2
 clear hL
 go_enter Tryz.func4, Tryz.ntmps4
 go_upto_region 3 with (go_at_call 9; refine HAW.out.mono ?_; rintro e w1 ⟨rfl, hb⟩; have HS1 := hide (HS.out.grow hb); clear hb)
 have hU : undef = Value.tuple #[] := rfl
 refine wp_region_held_drew (S := (fun W => ((W.cell? ⟨w.heap.size, 0, none⟩ = some (.slice h.s m.sT.length h.sc) ∧ W.cell? ⟨w.heap.size, 1, none⟩ = some (.slice h.f m.fT.length h.fc) ∧ W.cell? ⟨w.heap.size, 2, none⟩ = some (.slice h.r m.rT.length h.rc) ∧ W.cell? ⟨w.heap.size, 3, none⟩ = some (.slice h.m m.mT.length h.mc) ∧ W.cell? ⟨w.heap.size, 4, none⟩ = some (.slice h.l m.lT.length h.lc) ∧ W.cell? ⟨w.heap.size, 5, none⟩ = some (.slice h.i m.iT.length h.ic) ∧ W.cell? ⟨w.heap.size, 6, none⟩ = some (.int .i64 m.dT) ∧ W.cell? ⟨w.heap.size, 7, none⟩ = some (.int .i64 m.oT) ∧ W.cell? ⟨w.heap.size, 8, none⟩ = some (.int .i64 m.vT) ∧ W.cell? ⟨w.heap.size, 9, none⟩ = some (.int .i64 m.aT) ∧ W.cell? ⟨w.heap.size, 10, none⟩ = some (.slice h.u m.uT.length h.uc)) ∧ W.cell? ⟨w.heap.size + 1, 0, none⟩ = some (.slice Ap p.length cp)) ∧ I2 w #[.slice h.s m.sT.length h.sc, .slice h.f m.fT.length h.fc, .slice h.r m.rT.length h.rc, .slice h.m m.mT.length h.mc, .slice h.l m.lT.length h.lc, .slice h.i m.iT.length h.ic, .int .i64 m.dT, .int .i64 m.oT, .int .i64 m.vT, .int .i64 m.aT, .slice h.u m.uT.length h.uc] #[.slice Ap p.length cp] W)) (by kernel_rfl) (⟨I2.cells HS1.out.drew, HS1.out.drew⟩) (fun hHeld => ?_)
 refine wpAnyH_take (i := 0) (oi := _) (v := ?_) rfl (by kernel_rfl) (by kernel_rfl) (by kernel_rfl) (fun _ _ _ h => h) (Or.inl ⟨by rfl, ?_⟩) hHeld ?_
 rotate_left
 · intro W hSw; (try dsimp only at hSw); go_simp; try with_reducible rfl
 simp only [Act.put, List.getElem_toArray, List.getElem_cons_zero, List.setIfInBounds_toArray, List.set_cons_zero, List.set_cons_succ]
 refine wpAnyH_take (i := 1) (oi := _) (v := ?_) rfl (by kernel_rfl) (by kernel_rfl) (by kernel_rfl) (fun _ _ _ h => h) (Or.inl ⟨by rfl, ?_⟩) hHeld ?_
 rotate_left
 · intro W hSw; (try dsimp only at hSw); go_simp; try with_reducible rfl
 simp only [Act.put, List.getElem_toArray, List.getElem_cons_succ, List.getElem_cons_zero, List.setIfInBounds_toArray, List.set_cons_zero, List.set_cons_succ]
 refine wpAnyH_ready (rs := [2]) (by kernel_rfl) (by simp) ?_
 refine AllReadyH.cons rfl (fun K hK => ?_) AllReadyH.nil
 go_simp
 skip
 (try dsimp only)
 refine hK.out _ _ (⟨I2.cells (I2.grow HS1.out (below_1 _ _)), (I2.grow HS1.out (below_1 _ _))⟩) (fun hHeld => ?_)
 clear hK K
 refine wpAnyH_ready (rs := [3]) (by kernel_rfl) (by simp) ?_
 refine AllReadyH.cons rfl (fun K hK => ?_) AllReadyH.nil
 go_simp
 go_at_call 10
 (with_reducible refine (HLA.out _ HS1.out.b).mono ?_)
 rintro e w2 ⟨b, rfl, hb, hlg⟩
 have c1 := I2.grow (I2.grow HS1.out (below_1 _ _)) hb
 have HLG := hide hlg
 clear hb hlg
 (try dsimp only)
 refine hK.out _ _ (⟨I2.cells c1, c1⟩) (fun hHeld => ?_)
 clear hK K
 cases b
 · obtain ⟨hm, hp⟩ := HLG.out (by first | trivial | rfl)
   have HG1 := hide (HI1.out hm (hp p (List.mem_singleton.2 rfl)).1 (hp p (List.mem_singleton.2 rfl)).2)
   have HG2 := hide (HI2.out hm (hp p (List.mem_singleton.2 rfl)).1 (hp p (List.mem_singleton.2 rfl)).2)
   have HLN := hide (HLL.out hm)
   clear hm hp HI1 HI2 HLL HLG HLA
   refine wpAnyH_take (i := 4) (oi := _) (v := .bool false) rfl (by kernel_rfl) (by kernel_rfl) (by kernel_rfl) (fun _ _ _ h => h) (Or.inl ⟨by rfl, ?_⟩) hHeld ?_
   · intro W hSw; (try dsimp only at hSw); go_simp
   simp only [Act.put, List.getElem_toArray, List.getElem_cons_succ, List.getElem_cons_zero, List.setIfInBounds_toArray, List.set_cons_zero, List.set_cons_succ]
   refine wpAnyH_take (i := 5) (oi := _) (v := ?_) rfl (by kernel_rfl) (by kernel_rfl) (by kernel_rfl) (fun _ _ _ h => h) (Or.inl ⟨by rfl, ?_⟩) hHeld ?_
   rotate_left
   · intro W hSw; (try dsimp only at hSw); go_simp; try with_reducible rfl
   simp only [Act.put, List.getElem_toArray, List.getElem_cons_succ, List.getElem_cons_zero, List.setIfInBounds_toArray, List.set_cons_zero, List.set_cons_succ]
   refine wpAnyH_take (i := 6) (oi := _) (v := ?_) rfl (by kernel_rfl) (by kernel_rfl) (by kernel_rfl) (fun _ _ _ h => h) (Or.inl ⟨by rfl, ?_⟩) hHeld ?_
   rotate_left
   · intro W hSw; (try dsimp only at hSw); go_simp; try with_reducible rfl
   simp only [Act.put, List.getElem_toArray, List.getElem_cons_succ, List.getElem_cons_zero, List.setIfInBounds_toArray, List.set_cons_zero, List.set_cons_succ]
   refine wpAnyH_take (i := 7) (oi := _) (v := ?_) rfl (by kernel_rfl) (by kernel_rfl) (by kernel_rfl) (fun _ _ _ h => h) (Or.inl ⟨by rfl, ?_⟩) hHeld ?_
   rotate_left
   · intro W hSw; (try dsimp only at hSw); go_simp; try with_reducible rfl
   simp only [Act.put, List.getElem_toArray, List.getElem_cons_succ, List.getElem_cons_zero, List.setIfInBounds_toArray, List.set_cons_zero, List.set_cons_succ]
   refine wpAnyH_take (i := 9) (oi := _) (v := ?_) rfl (by kernel_rfl) (by kernel_rfl) (by kernel_rfl) (fun _ _ _ h => h) (Or.inl ⟨by rfl, ?_⟩) hHeld ?_
   rotate_left
   · intro W hSw; (try dsimp only at hSw); go_simp; try with_reducible rfl
   simp only [Act.put, List.getElem_toArray, List.getElem_cons_succ, List.getElem_cons_zero, List.setIfInBounds_toArray, List.set_cons_zero, List.set_cons_succ]
   refine wpAnyH_take (i := 10) (oi := _) (v := ?_) rfl (by kernel_rfl) (by kernel_rfl) (by kernel_rfl) (fun _ _ _ h => h) (Or.inl ⟨by rfl, ?_⟩) hHeld ?_
   rotate_left
   · intro W hSw; (try dsimp only at hSw); go_simp; try with_reducible rfl
   simp only [Act.put, List.getElem_toArray, List.getElem_cons_succ, List.getElem_cons_zero, List.setIfInBounds_toArray, List.set_cons_zero, List.set_cons_succ]
   refine wpAnyH_take (i := 11) (oi := _) (v := ?_) rfl (by kernel_rfl) (by kernel_rfl) (by kernel_rfl) (fun _ _ _ h => h) (Or.inl ⟨by rfl, ?_⟩) hHeld ?_
   rotate_left
   · intro W hSw; (try dsimp only at hSw); go_simp; try with_reducible rfl
   simp only [Act.put, List.getElem_toArray, List.getElem_cons_succ, List.getElem_cons_zero, List.setIfInBounds_toArray, List.set_cons_zero, List.set_cons_succ]
   refine wpAnyH_ready (rs := [8]) (by kernel_rfl) (by simp) ?_
   refine AllReadyH.cons rfl (fun K hK => ?_) AllReadyH.nil
   go_simp
   go_at_call 17
   (with_reducible refine (HG1.out _ (I2.b c1)).mono ?_)
   rintro e w3 ⟨v3, rfl, ho, hb⟩
   obtain ⟨A3, c3', rfl, hr3⟩ := ho.rd
   have c2 := I2.grow c1 hb
   clear hb ho
   (try dsimp only)
   refine hK.out _ _ (⟨I2.cells c2, c2⟩) (fun hHeld => ?_)
   clear hK K
   refine wpAnyH_ready (rs := [12]) (by kernel_rfl) (by simp) ?_
   refine AllReadyH.cons rfl (fun K hK => ?_) AllReadyH.nil
   go_simp
   go_at_call 18
   (with_reducible refine (HG2.out _ (I2.b c2)).mono ?_)
   rintro e w4 ⟨v4, rfl, ho, hb⟩
   obtain ⟨A4, c4', rfl, hr4⟩ := ho.rd
   have hr34 := hr3.grow hb
   have c3 := I2.grow c2 hb
   clear hb ho
   (try dsimp only)
   refine hK.out _ _ (⟨I2.cells c3, c3⟩) (fun hHeld => ?_)
   clear hK K
   refine wpAnyH_ready (rs := [13]) (by kernel_rfl) (by simp) ?_
   refine AllReadyH.cons rfl (fun K hK => ?_) AllReadyH.nil
   go_simp
   go_at_call 16
   refine (sameVi_ref A3 A4 c3' c4' L _ hr34 hr4 (by have := HLN.out; omega)).mono ?_
   rintro e w5 ⟨rfl, hb⟩
   have c4 := I2.grow c3 hb
   clear hb
   (try dsimp only)
   refine hK.out _ _ (⟨I2.cells c4, c4⟩) (fun hHeld => ?_)
   clear hK K
   refine wpAnyH_take (i := 14) (oi := _) (v := .bool true) rfl (by kernel_rfl) (by kernel_rfl) (by kernel_rfl) (fun _ _ _ h => h) (Or.inl ⟨by rfl, ?_⟩) hHeld ?_
   · intro W hSw; (try dsimp only at hSw); go_simp
   simp only [Act.put, List.getElem_toArray, List.getElem_cons_succ, List.getElem_cons_zero, List.setIfInBounds_toArray, List.set_cons_zero, List.set_cons_succ]
   refine wpAnyH_take (i := 15) (oi := _) (v := .bool true) rfl (by kernel_rfl) (by kernel_rfl) (by kernel_rfl) (fun _ _ _ h => h) (Or.inl ⟨by rfl, ?_⟩) hHeld ?_
   · intro W hSw; (try dsimp only at hSw); go_simp
   simp only [Act.put, List.getElem_toArray, List.getElem_cons_succ, List.getElem_cons_zero, List.setIfInBounds_toArray, List.set_cons_zero, List.set_cons_succ]
   refine wpAnyH_done (by kernel_rfl) ?_ _
   go_wp2_with fail
   go_ret
   exact ⟨rfl, c4.b⟩
 · refine wpAnyH_take (i := 4) (oi := _) (v := .bool true) rfl (by kernel_rfl) (by kernel_rfl) (by kernel_rfl) (fun _ _ _ h => h) (Or.inl ⟨by rfl, ?_⟩) hHeld ?_
   · intro W hSw; (try dsimp only at hSw); go_simp
   simp only [Act.put, List.getElem_toArray, List.getElem_cons_succ, List.getElem_cons_zero, List.setIfInBounds_toArray, List.set_cons_zero, List.set_cons_succ]
   refine wpAnyH_take (i := 5) (oi := _) (v := _) rfl (by kernel_rfl) (by kernel_rfl) (by kernel_rfl) (fun _ _ _ h => h) (Or.inr ⟨by rfl, rfl⟩) hHeld ?_
   simp only [Act.put, List.getElem_toArray, List.getElem_cons_succ, List.getElem_cons_zero, List.setIfInBounds_toArray, List.set_cons_zero, List.set_cons_succ]
   refine wpAnyH_take (i := 6) (oi := _) (v := _) rfl (by kernel_rfl) (by kernel_rfl) (by kernel_rfl) (fun _ _ _ h => h) (Or.inr ⟨by rfl, rfl⟩) hHeld ?_
   simp only [Act.put, List.getElem_toArray, List.getElem_cons_succ, List.getElem_cons_zero, List.setIfInBounds_toArray, List.set_cons_zero, List.set_cons_succ]
   refine wpAnyH_take (i := 7) (oi := _) (v := _) rfl (by kernel_rfl) (by kernel_rfl) (by kernel_rfl) (fun _ _ _ h => h) (Or.inr ⟨by rfl, rfl⟩) hHeld ?_
   simp only [Act.put, List.getElem_toArray, List.getElem_cons_succ, List.getElem_cons_zero, List.setIfInBounds_toArray, List.set_cons_zero, List.set_cons_succ]
   refine wpAnyH_take (i := 9) (oi := _) (v := _) rfl (by kernel_rfl) (by kernel_rfl) (by kernel_rfl) (fun _ _ _ h => h) (Or.inr ⟨by rfl, rfl⟩) hHeld ?_
   simp only [Act.put, List.getElem_toArray, List.getElem_cons_succ, List.getElem_cons_zero, List.setIfInBounds_toArray, List.set_cons_zero, List.set_cons_succ]
   refine wpAnyH_take (i := 10) (oi := _) (v := _) rfl (by kernel_rfl) (by kernel_rfl) (by kernel_rfl) (fun _ _ _ h => h) (Or.inr ⟨by rfl, rfl⟩) hHeld ?_
   simp only [Act.put, List.getElem_toArray, List.getElem_cons_succ, List.getElem_cons_zero, List.setIfInBounds_toArray, List.set_cons_zero, List.set_cons_succ]
   refine wpAnyH_take (i := 11) (oi := _) (v := _) rfl (by kernel_rfl) (by kernel_rfl) (by kernel_rfl) (fun _ _ _ h => h) (Or.inr ⟨by rfl, rfl⟩) hHeld ?_
   simp only [Act.put, List.getElem_toArray, List.getElem_cons_succ, List.getElem_cons_zero, List.setIfInBounds_toArray, List.set_cons_zero, List.set_cons_succ]
   refine wpAnyH_take (i := 8) (oi := _) (v := _) rfl (by kernel_rfl) (by kernel_rfl) (by kernel_rfl) (fun _ _ _ h => h) (Or.inr ⟨by rfl, rfl⟩) hHeld ?_
   simp only [Act.put, List.getElem_toArray, List.getElem_cons_succ, List.getElem_cons_zero, List.setIfInBounds_toArray, List.set_cons_zero, List.set_cons_succ]
   refine wpAnyH_take (i := 12) (oi := _) (v := _) rfl (by kernel_rfl) (by kernel_rfl) (by kernel_rfl) (fun _ _ _ h => h) (Or.inr ⟨by rfl, rfl⟩) hHeld ?_
   simp only [Act.put, List.getElem_toArray, List.getElem_cons_succ, List.getElem_cons_zero, List.setIfInBounds_toArray, List.set_cons_zero, List.set_cons_succ]
   refine wpAnyH_take (i := 13) (oi := _) (v := _) rfl (by kernel_rfl) (by kernel_rfl) (by kernel_rfl) (fun _ _ _ h => h) (Or.inr ⟨by rfl, rfl⟩) hHeld ?_
   simp only [Act.put, List.getElem_toArray, List.getElem_cons_succ, List.getElem_cons_zero, List.setIfInBounds_toArray, List.set_cons_zero, List.set_cons_succ]
   refine wpAnyH_take (i := 14) (oi := _) (v := .bool true) rfl (by kernel_rfl) (by kernel_rfl) (by kernel_rfl) (fun _ _ _ h => h) (Or.inl ⟨by rfl, ?_⟩) hHeld ?_
   · intro W hSw; (try dsimp only at hSw); go_simp
   simp only [Act.put, List.getElem_toArray, List.getElem_cons_succ, List.getElem_cons_zero, List.setIfInBounds_toArray, List.set_cons_zero, List.set_cons_succ]
   refine wpAnyH_take (i := 15) (oi := _) (v := .bool true) rfl (by kernel_rfl) (by kernel_rfl) (by kernel_rfl) (fun _ _ _ h => h) (Or.inl ⟨by rfl, ?_⟩) hHeld ?_
   · intro W hSw; (try dsimp only at hSw); go_simp
   simp only [Act.put, List.getElem_toArray, List.getElem_cons_succ, List.getElem_cons_zero, List.setIfInBounds_toArray, List.set_cons_zero, List.set_cons_succ]
   refine wpAnyH_done (by kernel_rfl) ?_ _
   go_wp2_with fail
   go_ret
   exact ⟨rfl, c1.b⟩
end Go.Proofs.YtlnjaemdelnceaaGreatDoor
