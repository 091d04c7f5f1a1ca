/- A part of the claim: see its last text. -/
import Derived.Test.YtcfogipaadhbeaaGreatDoorUK23
import Derived.Test.YtcfogipaadhbeaaGreatDoorUK05
import Derived.Laws.EntriesVeiled
import Derived.Deep.RegionHeld3
import Derived.Deep.DeepCutAuto

set_option maxRecDepth 100000
set_option maxHeartbeats 16000000
namespace Go.Proofs.YtcfogipaadhbeaaGreatDoor
open Go Go.RowKit Go.Proofs
theorem item_g (x : ItemM) (A : Option Addr) (c bx : Nat) (W : World) (hX : Blk W bx 49 #[.string x.name, .int .i64 x.kind, .int .i64 x.count, .int .i64 x.load, .int .i64 x.size, .int .i64 x.share, .slice A x.on.length c]) :
    Calls Tryz.prog 128 #[.pointer (some ⟨bx, 0, none⟩)] W fun e w' => e = .returned (.bool (decide (x.count ∈ ([1, 3, 5] : List Int)) && decide ((x.on.length : Int) = x.count))) ∧ Below W.heap.size W w' := by
 have x2 := hX.cell 2
 have x6 := hX.cell 6
 have hlt := hX.lt
 simp at x2 x6
 have HC := hide (contains_ints (some ⟨W.heap.size, 0, none⟩) 3 [1, 3, 5] x.count (W.alloc (.cells #[.int .i64 1, .int .i64 3, .int .i64 5] 3)) (by decide) ((Ints.newRow W 3 [1, 3, 5]).more (by simp)))
 have HB := hide ((Below.refl W.heap.size W).alloc (Nat.le_refl _) (.cells #[.int .i64 1, .int .i64 3, .int .i64 5] 3))
 clear hX
 obtain ⟨b, hb⟩ : ∃ b, (x.count == (x.on.length : Int)) = b := ⟨_, rfl⟩
 have hb2 : decide ((x.on.length : Int) = x.count) = b := by rw [← hb]; by_cases e : (x.on.length : Int) = x.count <;> simp [e]; omega
 have HB2 := hide hb2
 clear hb2
 cases hq : decide (x.count ∈ ([1, 3, 5] : List Int))
 all_goals
  rw [hq] at HC
  clear hq
  go_enter Tryz.func128, Tryz.ntmps128
  go_wp2_with (go_at_call 85; refine HC.out.mono ?_; rintro e w2 ⟨rfl, rfl⟩)
  go_ret
  exact ⟨ret_congr (by rw [HB2.out]; rfl), HB.out⟩
theorem item_p (x : ItemM) (A : Option Addr) (c bx : Nat) (W : World) (hX : Blk W bx 49 #[.string x.name, .int .i64 x.kind, .int .i64 x.count, .int .i64 x.load, .int .i64 x.size, .int .i64 x.share, .slice A x.on.length c]) :
    Calls Tryz.prog 129 #[.pointer (some ⟨bx, 0, none⟩)] W fun e w' => e = .returned (.bool (wiI x.count 1 8)) ∧ Below W.heap.size W w' := by
 have x2 := hX.cell 2
 have hlt := hX.lt
 simp at x2
 go_enter Tryz.func129, Tryz.ntmps129
 go_wp2_with (go_at_call 69; refine (within_prog _ _ _ _).mono ?_; rintro e w2 ⟨rfl, rfl⟩)
 go_ret
 exact ⟨rfl, Below.refl _ _⟩
theorem item_j (x : ItemM) (A : Option Addr) (c bx : Nat) (W : World) (hX : Blk W bx 49 #[.string x.name, .int .i64 x.kind, .int .i64 x.count, .int .i64 x.load, .int .i64 x.size, .int .i64 x.share, .slice A x.on.length c]) :
    Calls Tryz.prog 130 #[.pointer (some ⟨bx, 0, none⟩)] W fun e w' => e = .returned (.bool (decide (x.count = 1) && decide (x.on.length = 1))) ∧ Below W.heap.size W w' := by
 have x2 := hX.cell 2
 have x6 := hX.cell 6
 have hlt := hX.lt
 simp at x2 x6
 obtain ⟨b1, hb1⟩ : ∃ b, (x.count == 1) = b := ⟨_, rfl⟩
 obtain ⟨b2, hb2⟩ : ∃ b, ((x.on.length : Int) == 1) = b := ⟨_, rfl⟩
 have e1 : decide (x.count = 1) = b1 := by rw [← hb1]; rfl
 have e2 : decide (x.on.length = 1) = b2 := by rw [← hb2, Bool.eq_iff_iff]; simp; omega
 have HE := hide (And.intro e1 e2)
 clear e1 e2
 cases b1
 all_goals
  go_enter Tryz.func130, Tryz.ntmps130
  go_wp2_with fail
  go_ret
  exact ⟨ret_congr (by rw [HE.out.1, HE.out.2]; rfl), Below.refl _ _⟩
theorem nilf_ne (w : World) : (binOp .neq 23 .nilFunc .nilFunc).run Tryz.prog w = .ok (.bool false) w := by kernel_rfl
theorem func_ne (g : Nat) (cap : Array Value) (w : World) : (binOp .neq 23 (.func (.func g) #[] cap) .nilFunc).run Tryz.prog w = .ok (.bool true) w := by kernel_rfl
def entI (bx : Nat) (k : Nat) : Value := .func (.func (match k with | 0 => 128 | 1 => 129 | _ => 130)) #[] #[.pointer (some ⟨bx, 0, none⟩)]
theorem look_entI {w : World} {r bx : Nat} (h : w.heap[r]? = some (.map (ents (entI bx) 3) 3)) (k : Int) :
    (Instr.lookup 152 (.map (some r)) (.int .i64 k) false).run Tryz.prog w = .ok (if 0 ≤ k ∧ k < 3 then entI bx k.toNat else .nilFunc) w := by
 have hf : Instr.findNow (.int .i64) (.int .i64 k) (ents (entI bx) 3).toList 0 = some (if 0 ≤ k ∧ k < 3 then some (k.toNat, entI bx k.toNat) else none) := find_ents (entI bx) 3 k
 have hz : (zeroValue 23).run Tryz.prog w = .ok .nilFunc w := by kernel_rfl
 split
 · rename_i hk
   rw [if_pos hk] at hf
   exact run_lookup_int1 Tryz.underlying152 Tryz.underlying3 hz h hf (b := true) (by rfl)
 · rename_i hk
   rw [if_neg hk] at hf
   exact run_lookup_int1 Tryz.underlying152 Tryz.underlying3 hz h hf (b := false) (by rfl)
theorem itemKind_0 {x : ItemM} (h : x.kind = 0) : itemKindB x = (decide (x.count ∈ ([1, 3, 5] : List Int)) && decide ((x.on.length : Int) = x.count)) := by simp [itemKindB, h]
theorem itemKind_1 {x : ItemM} (h : x.kind = 1) : itemKindB x = wiI x.count 1 8 := by simp [itemKindB, h]
theorem itemKind_2 {x : ItemM} (h : x.kind = 2) : itemKindB x = (decide (x.count = 1) && decide (x.on.length = 1)) := by simp [itemKindB, h]
theorem itemKind_no {x : ItemM} (h : ¬ (0 ≤ x.kind ∧ x.kind < 3)) : itemKindB x = false := by
 unfold itemKindB; rw [if_neg (by omega), if_neg (by omega), if_neg (by omega)]
theorem item_k (x : ItemM) (A : Option Addr) (c bx : Nat) (hk : 0 ≤ x.kind ∧ x.kind < 3) : ∃ g, entI bx x.kind.toNat = .func (.func g) #[] #[.pointer (some ⟨bx, 0, none⟩)] ∧ (∀ args w, (callFunc g args).run Tryz.prog w = .ok (.enter g args) w) ∧
    ∀ W, Blk W bx 49 #[.string x.name, .int .i64 x.kind, .int .i64 x.count, .int .i64 x.load, .int .i64 x.size, .int .i64 x.share, .slice A x.on.length c] → Calls Tryz.prog g #[.pointer (some ⟨bx, 0, none⟩)] W fun e w' => e = .returned (.bool (itemKindB x)) ∧ Below W.heap.size W w' := by
 have h3 : x.kind = 0 ∨ x.kind = 1 ∨ x.kind = 2 := by omega
 rcases h3 with h | h | h
 · refine ⟨128, by rw [h]; rfl, fun _ _ => by kernel_rfl, fun W hX => ?_⟩
   rw [itemKind_0 h]; exact item_g x A c bx W hX
 · refine ⟨129, by rw [h]; rfl, fun _ _ => by kernel_rfl, fun W hX => ?_⟩
   rw [itemKind_1 h]; exact item_p x A c bx W hX
 · refine ⟨130, by rw [h]; rfl, fun _ _ => by kernel_rfl, fun W hX => ?_⟩
   rw [itemKind_2 h]; exact item_j x A c bx W hX
theorem itemOk_eq (m : Mod) (x : ItemM) : itemOk m x = (itemKindB x && incB m.mT.length x.on && wiI x.load 0 1048576 && wiI x.size 0 1048576 && wiI x.share 1 1048576) := by
 unfold itemOk
 generalize itemKindB x = a
 generalize incB m.mT.length x.on = b
 cases a <;> cases b <;> simp
theorem item14_prog (h : MH) (m : Mod) (x : ItemM) (A : Option Addr) (c : Nat) (w : World) (hl : x.on.length ≤ 9223372036854775807) (l0 : m.mT.length ≤ 9223372036854775807) (hI : Ints w w.heap.size A x.on) :
    Calls Tryz.prog 74 #[.agg #[.slice h.s m.sT.length h.sc, .slice h.f m.fT.length h.fc, .slice h.r m.rT.length h.rc, .slice h.m m.mT.length h.mc, .slice h.l m.lT.length h.lc, .slice h.i m.iT.length h.ic, .int .i64 m.dT, .int .i64 m.oT, .int .i64 m.vT, .int .i64 m.aT, .slice h.u m.uT.length h.uc], .agg #[.string x.name, .int .i64 x.kind, .int .i64 x.count, .int .i64 x.load, .int .i64 x.size, .int .i64 x.share, .slice A x.on.length c]] w fun e w' => e = .returned (.bool (itemOk m x)) ∧ Below w.heap.size w w' := by
 have hmm := @run_makeMap Tryz.prog
 have hn1 := nilf_ne
 have hn2 := func_ne
 have HM := hide (((Blk.new w 32 #[.slice h.s m.sT.length h.sc, .slice h.f m.fT.length h.fc, .slice h.r m.rT.length h.rc, .slice h.m m.mT.length h.mc, .slice h.l m.lT.length h.lc, .slice h.i m.iT.length h.ic, .int .i64 m.dT, .int .i64 m.oT, .int .i64 m.vT, .int .i64 m.aT, .slice h.u m.uT.length h.uc]).alloc (.cells #[.string x.name, .int .i64 x.kind, .int .i64 x.count, .int .i64 x.load, .int .i64 x.size, .int .i64 x.share, .slice A x.on.length c] 49)).alloc (.map (ents (entI (w.heap.size + 1)) 3) 3))
 have hX0 : Blk ((w.alloc (.cells #[.slice h.s m.sT.length h.sc, .slice h.f m.fT.length h.fc, .slice h.r m.rT.length h.rc, .slice h.m m.mT.length h.mc, .slice h.l m.lT.length h.lc, .slice h.i m.iT.length h.ic, .int .i64 m.dT, .int .i64 m.oT, .int .i64 m.vT, .int .i64 m.aT, .slice h.u m.uT.length h.uc] 32)).alloc (.cells #[.string x.name, .int .i64 x.kind, .int .i64 x.count, .int .i64 x.load, .int .i64 x.size, .int .i64 x.share, .slice A x.on.length c] 49)) (w.heap.size + 1) 49 #[.string x.name, .int .i64 x.kind, .int .i64 x.count, .int .i64 x.load, .int .i64 x.size, .int .i64 x.share, .slice A x.on.length c] := by
  have := Blk.new (w.alloc (.cells #[.slice h.s m.sT.length h.sc, .slice h.f m.fT.length h.fc, .slice h.r m.rT.length h.rc, .slice h.m m.mT.length h.mc, .slice h.l m.lT.length h.lc, .slice h.i m.iT.length h.ic, .int .i64 m.dT, .int .i64 m.oT, .int .i64 m.vT, .int .i64 m.aT, .slice h.u m.uT.length h.uc] 32)) 49 #[.string x.name, .int .i64 x.kind, .int .i64 x.count, .int .i64 x.load, .int .i64 x.size, .int .i64 x.share, .slice A x.on.length c]
  simpa using this
 have HX := hide (hX0.alloc (.map (ents (entI (w.heap.size + 1)) 3) 3))
 have hB := (two_boxes2 w #[.slice h.s m.sT.length h.sc, .slice h.f m.fT.length h.fc, .slice h.r m.rT.length h.rc, .slice h.m m.mT.length h.mc, .slice h.l m.lT.length h.lc, .slice h.i m.iT.length h.ic, .int .i64 m.dT, .int .i64 m.oT, .int .i64 m.vT, .int .i64 m.aT, .slice h.u m.uT.length h.uc] #[.string x.name, .int .i64 x.kind, .int .i64 x.count, .int .i64 x.load, .int .i64 x.size, .int .i64 x.share, .slice A x.on.length c] 32 49)
 have HB := hide (hB.alloc hB.size (.map (ents (entI (w.heap.size + 1)) 3) 3))
 have hlk := look_entI (w := (((w.alloc (.cells #[.slice h.s m.sT.length h.sc, .slice h.f m.fT.length h.fc, .slice h.r m.rT.length h.rc, .slice h.m m.mT.length h.mc, .slice h.l m.lT.length h.lc, .slice h.i m.iT.length h.ic, .int .i64 m.dT, .int .i64 m.oT, .int .i64 m.vT, .int .i64 m.aT, .slice h.u m.uT.length h.uc] 32)).alloc (.cells #[.string x.name, .int .i64 x.kind, .int .i64 x.count, .int .i64 x.load, .int .i64 x.size, .int .i64 x.share, .slice A x.on.length c] 49)).alloc (.map (ents (entI (w.heap.size + 1)) 3) 3))) (r := w.heap.size + 2) (bx := w.heap.size + 1) (by simpa using heap_alloc_new ((w.alloc (.cells #[.slice h.s m.sT.length h.sc, .slice h.f m.fT.length h.fc, .slice h.r m.rT.length h.rc, .slice h.m m.mT.length h.mc, .slice h.l m.lT.length h.lc, .slice h.i m.iT.length h.ic, .int .i64 m.dT, .int .i64 m.oT, .int .i64 m.vT, .int .i64 m.aT, .slice h.u m.uT.length h.uc] 32)).alloc (.cells #[.string x.name, .int .i64 x.kind, .int .i64 x.count, .int .i64 x.load, .int .i64 x.size, .int .i64 x.share, .slice A x.on.length c] 49)) (.map (ents (entI (w.heap.size + 1)) 3) 3)) x.kind
 have HK := hide (itemOk_eq m x)
 clear hX0 hB
 by_cases hk : 0 ≤ x.kind ∧ x.kind < 3
 · rw [if_pos hk] at hlk
   obtain ⟨g, hg, eg, hcl⟩ := item_k x A c (w.heap.size + 1) hk
   rw [hg] at hlk
   have HCL := hide hcl
   clear hg hk hcl
   generalize itemKindB x = q at HCL HK
   go_enter Tryz.func74, Tryz.ntmps74
   go_wp2_with (first
    | (refine wpList_insert_next rfl rfl _ _ _ _ rfl Tryz.underlying152 Tryz.underlying3 (entI (w.heap.size + 1)) rfl (by simp) rfl rfl rfl rfl ?_)
    | ((with_reducible refine Calls.mono (HCL.out _ HX.out) ?_); rintro e w1 ⟨rfl, hb1⟩
       have hx := HX.out.below hb1 (by simp <;> omega)
       have hm := HM.out.below hb1 (by simp <;> omega)
       have hB1 := hide (HB.out.trans (hb1.mono HB.out.size))
       have y3 := hx.cell 3
       have y4 := hx.cell 4
       have y5 := hx.cell 5
       have y6 := hx.cell 6
       have ylt := hx.lt
       have yl2 := hm.lt
       obtain ⟨a0, a1, a2, a3, a4, a5, a6, a7, a8, a9, a10⟩ := MB.cells hm
       simp at y3 y4 y5 y6
       clear hm hb1)
    | (go_at_call 131; refine (machines_prog h m A c x.on _ hl l0 (hI.grow hB1.out)).mono ?_; rintro e w2 ⟨rfl, hb2⟩
       have hx2 := hx.below hb2 ylt
       have hB2 := hide (hB1.out.trans (hb2.mono hB1.out.size))
       have z3 := hx2.cell 3
       have z4 := hx2.cell 4
       have z5 := hx2.cell 5
       have zlt := hx2.lt
       simp at z3 z4 z5
       clear hb2)
    | (go_at_call 69; refine (within_prog _ _ _ _).mono ?_; rintro e w3 ⟨rfl, rfl⟩))
   all_goals
    go_ret
    refine ⟨ret_congr (congrArg Value.bool ?_), by first | exact hB2.out | exact hB1.out⟩
    rw [HK.out]
    simp_all
 · rw [if_neg hk] at hlk
   have hq := itemKind_no hk
   rw [hq] at HK
   clear hq hk
   go_enter Tryz.func74, Tryz.ntmps74
   go_wp2_with (first
    | (refine wpList_insert_next rfl rfl _ _ _ _ rfl Tryz.underlying152 Tryz.underlying3 (entI (w.heap.size + 1)) rfl (by simp) rfl rfl rfl rfl ?_))
   go_ret
   exact ⟨ret_congr (by rw [HK.out]; rfl), HB.out⟩
end Go.Proofs.YtcfogipaadhbeaaGreatDoor
