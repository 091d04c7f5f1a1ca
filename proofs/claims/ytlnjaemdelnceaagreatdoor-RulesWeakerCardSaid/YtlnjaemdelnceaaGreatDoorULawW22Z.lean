/- A part of the claim: see its last text. -/
import Derived.Test.YtlnjaemdelnceaaGreatDoorULaw22cZ

set_option maxRecDepth 100000
set_option maxHeartbeats 16000000
namespace Go.Proofs.YtlnjaemdelnceaaGreatDoor
open Go Go.RowKit Go.Proofs
theorem S4.set_ {w : World} {M X P F : Array Value} {W : World} (s : S4 w M X P F W) {b : Nat} (i : Nat) (v : Value) (hb : w.heap.size + 1 + 1 + 1 < b) : S4 w M X P F (W.setCell ⟨b, i, none⟩ v) :=
 ⟨s.m.far (by simp; omega) _, s.x.far (by simp; omega) _, s.p.far (by simp; omega) _, s.f.far (by simp; omega) _, s.b.setCell (by simp; omega) _⟩
theorem OwnI.keepB {B : Nat} {w w' : World} {v : Value} {l : List Int} (h : OwnI B w v l) (h3 : ∀ g cur, v.ownBlock = some g → Blk w g 3 cur → Blk w' g 3 cur) : OwnI B w' v l := by
 refine ⟨h.1, ?_⟩
 rcases h.2 with h0 | ⟨g, cap, cur, e, hb, hh, h4⟩
 · exact .inl h0
 · exact .inr ⟨g, cap, cur, e, hb, h3 _ _ (by rw [e]; rfl) hh, h4⟩
theorem OwnI.keepS {B g : Nat} {w : World} {v : Value} {l : List Int} (h : OwnI B w v l) (i : Nat) (u : Value) (hg : g < B) : OwnI B (w.setCell ⟨g, i, none⟩ u) v l := by
 refine h.keepB fun g2 cur e hb => ?_
 have := (h.lt _ e).1
 exact hb.far (by simp; omega) u
theorem rulesWeaker_walk (h : MH) (m : Mod) (x : RuleM) (A : Option Addr) (c : Nat) (Ap : Option Addr) (cp : Nat) (p : PlaceM) (f : Int × Int) (k : Int) (w : World) (d : MD w w.heap.size h m) (hI : Ints w w.heap.size A x.machines) (hml : x.machines.length ≤ 9223372036854775807)
    (hP : PR w w.heap.size Ap p) (hpl : p.length ≤ 9223372036854775807) (hk0 : 0 ≤ k) (hk1 : k ≤ 255) (ha : Asc w) (hpw : Pow w) :
    Calls Tryz.prog 6 #[.agg #[.slice h.s m.sT.length h.sc, .slice h.f m.fT.length h.fc, .slice h.r m.rT.length h.rc, .slice h.m m.mT.length h.mc, .slice h.l m.lT.length h.lc, .slice h.i m.iT.length h.ic, .int .i64 m.dT, .int .i64 m.oT, .int .i64 m.vT, .int .i64 m.aT, .slice h.u m.uT.length h.uc], .agg #[.int .i64 x.kind, .int .i64 x.item, .int .i64 x.other, .int .i64 x.n, .int .i64 x.by_, .bool x.always, .slice A x.machines.length c], .agg #[.slice Ap p.length cp], .agg #[.int .i64 f.1, .int .i64 f.2], .int .u8 k] w (AnsR w (.bool true)) := by
 have hS := S4.start w #[.slice h.s m.sT.length h.sc, .slice h.f m.fT.length h.fc, .slice h.r m.rT.length h.rc, .slice h.m m.mT.length h.mc, .slice h.l m.lT.length h.lc, .slice h.i m.iT.length h.ic, .int .i64 m.dT, .int .i64 m.oT, .int .i64 m.vT, .int .i64 m.aT, .slice h.u m.uT.length h.uc] #[.int .i64 x.kind, .int .i64 x.item, .int .i64 x.other, .int .i64 x.n, .int .i64 x.by_, .bool x.always, .slice A x.machines.length c] #[.slice Ap p.length cp] #[.int .i64 f.1, .int .i64 f.2]
 have HAW := hide (awake22 _ (ha.below (Nat.le_refl _) hS.b) (hpw.below (Nat.le_refl _) hS.b))
 have HLA := hide (fun W (hW : Below w.heap.size w W) => large_one h m Ap cp p W (d.grow hW) hpl (hP.grow hW))
 have HH1 := hide (fun (hm : FewL m) (hp1 : p.length ≤ 24) (hp2 : ∀ l ∈ p, l.length ≤ 24) W (hW : Below w.heap.size w W) => holds_prog h m x A c Ap cp p f W ⟨d.grow hW, hI.grow hW, hml, hP.grow hW, by omega, small_units hp2 _, hm.m.doms _⟩)
 have HH2 := hide (fun (hm : FewL m) (hp1 : p.length ≤ 24) (hp2 : ∀ l ∈ p, l.length ≤ 24) W (hW : Below w.heap.size w W) Aw cw (hi : Ints W W.heap.size Aw (weakR x k).machines) (hl : (weakR x k).machines.length ≤ 9223372036854775807) => holds_prog h m (weakR x k) Aw cw Ap cp p f W ⟨d.grow hW, hi, hl, hP.grow hW, by omega, small_units hp2 _, hm.m.doms _⟩)
 have HII := hide (fun W (hW : Below w.heap.size w W) => hI.grow hW)
 have HS := hide hS
 have hB2 : ∀ b : Bool, b = false ∨ b = true := fun b => by cases b <;> simp
 clear d hI hP ha hpw hS
 obtain ⟨q, hq⟩ : ∃ q, q = holdsR m x p f := ⟨_, rfl⟩
 have HWK := hide (show q = true → holdsR m (weakR x k) p f = true from fun e => weak_holds hk0 (by rw [← hq]; exact e))
 rw [← hq] at HH1
 clear hq
 go_enter Tryz.func6, Tryz.ntmps6
 by_cases hbig : 24 < x.machines.length ∨ x.n < -1000 ∨ 1000 < x.n
 · rcases hB2 (decide ((24 : Int) < (x.machines.length : Int))) with g1 | g1 <;> rcases hB2 (decide (x.n < -1000)) with g2 | g2 <;> rcases hB2 (decide (1000 < x.n)) with g3 | g3
   · exfalso
     simp at g1 g2 g3
     omega
   all_goals
    clear hbig
    go_wp2_with (first
     | (go_at_call 9; refine HAW.out.mono ?_; rintro e w1 ⟨rfl, hb⟩
        have HS1 := hide (HS.out.grow hb)
        obtain ⟨⟨a0, a1, a2, a3, a4, a5, a6, a7, a8, a9, a10⟩, ⟨x0, x1, x2, x3, x4, x5, x6⟩, p0, f0, f1⟩ := HS1.out.cells
        have l1 := HS1.out.m.lt
        have l2 := HS1.out.x.lt
        have l3 := HS1.out.p.lt
        have l4 := HS1.out.f.lt
        clear hb)
     | (go_at_call 10; (with_reducible refine (HLA.out _ HS1.out.b).mono ?_); rintro e w2 ⟨b, rfl, hb, hlg⟩
        have HS2 := hide (HS1.out.grow (((Below.refl _ _).alloc (Nat.le_refl _) _).trans (hb.mono (by simp))))
        have HLG := hide hlg
        clear hb hlg a0 a1 a2 a3 a4 a5 a6 a7 a8 a9 a10 x0 x1 x2 x3 x4 x5 x6 p0 f0 f1 l1 l2 l3 l4
        obtain ⟨⟨a0, a1, a2, a3, a4, a5, a6, a7, a8, a9, a10⟩, ⟨x0, x1, x2, x3, x4, x5, x6⟩, p0, f0, f1⟩ := HS2.out.cells
        have l1 := HS2.out.m.lt
        have l2 := HS2.out.x.lt
        have l3 := HS2.out.p.lt
        have l4 := HS2.out.f.lt
        cases b))
    all_goals
     go_ret
     exact ⟨rfl, HS2.out.b⟩
 · have g1 : decide ((24 : Int) < (x.machines.length : Int)) = false := by simp; omega
   have g2 : decide (x.n < -1000) = false := by simp; omega
   have g3 : decide (1000 < x.n) = false := by simp; omega
   have n0 : -1000 ≤ x.n := by omega
   have n1 : x.n ≤ 1000 := by omega
   have HM24 := hide (show x.machines.length ≤ 24 by omega)
   clear hbig
   go_upto_region 5 with (first
    | (go_at_call 9; refine HAW.out.mono ?_; rintro e w1 ⟨rfl, hb⟩
       have HS1 := hide (HS.out.grow hb)
       obtain ⟨⟨a0, a1, a2, a3, a4, a5, a6, a7, a8, a9, a10⟩, ⟨x0, x1, x2, x3, x4, x5, x6⟩, p0, f0, f1⟩ := HS1.out.cells
       have l1 := HS1.out.m.lt
       have l2 := HS1.out.x.lt
       have l3 := HS1.out.p.lt
       have l4 := HS1.out.f.lt
       clear hb)
    | (go_at_call 10; (with_reducible refine (HLA.out _ HS1.out.b).mono ?_); rintro e w2 ⟨b, rfl, hb, hlg⟩
       have HS2 := hide (HS1.out.grow (((Below.refl _ _).alloc (Nat.le_refl _) _).trans (hb.mono (by simp))))
       have HLG := hide hlg
       clear hb hlg a0 a1 a2 a3 a4 a5 a6 a7 a8 a9 a10 x0 x1 x2 x3 x4 x5 x6 p0 f0 f1 l1 l2 l3 l4
       obtain ⟨⟨a0, a1, a2, a3, a4, a5, a6, a7, a8, a9, a10⟩, ⟨x0, x1, x2, x3, x4, x5, x6⟩, p0, f0, f1⟩ := HS2.out.cells
       have l1 := HS2.out.m.lt
       have l2 := HS2.out.x.lt
       have l3 := HS2.out.p.lt
       have l4 := HS2.out.f.lt
       cases b)
    | (go_at_call 11
       obtain ⟨hm, hp⟩ := HLG.out (by first | trivial | rfl)
       have HG2 := hide (HH2.out hm (hp p (by simp)).1 (hp p (by simp)).2)
       (with_reducible refine (HH1.out hm (hp p (by simp)).1 (hp p (by simp)).2 _ HS2.out.b).mono ?_); rintro e w3 ⟨rfl, hb⟩
       have HS3 := hide (HS2.out.grow hb)
       clear hb hm hp HH1 HH2 HLG a0 a1 a2 a3 a4 a5 a6 a7 a8 a9 a10 x0 x1 x2 x3 x4 x5 x6 p0 f0 f1 l1 l2 l3 l4
       obtain ⟨⟨a0, a1, a2, a3, a4, a5, a6, a7, a8, a9, a10⟩, ⟨x0, x1, x2, x3, x4, x5, x6⟩, p0, f0, f1⟩ := HS3.out.cells
       have l1 := HS3.out.m.lt
       have l2 := HS3.out.x.lt
       have l3 := HS3.out.p.lt
       have l4 := HS3.out.f.lt
       cases q))
   · go_ret
     exact ⟨rfl, HS3.out.b⟩
   · have HW := hide (HWK.out (by first | trivial | rfl))
     have hsz : (w3.alloc (.cells #[.int .i64 x.kind, .int .i64 x.item, .int .i64 x.other, .int .i64 x.n, .int .i64 x.by_, .bool x.always, .slice A x.machines.length c] 32)).heap.size = w3.heap.size + 1 := by simp
     have HO0 := hide (show OwnI (w3.heap.size + 1) ((w3.alloc (.cells #[.int .i64 x.kind, .int .i64 x.item, .int .i64 x.other, .int .i64 x.n, .int .i64 x.by_, .bool x.always, .slice A x.machines.length c] 32)).alloc (.cells #[] 3)) (.slice (some ⟨w3.heap.size + 1, 0, none⟩) 0 0) [] from by
      have h3 := OwnI.new (B := w3.heap.size + 1) (w3.alloc (.cells #[.int .i64 x.kind, .int .i64 x.item, .int .i64 x.other, .int .i64 x.n, .int .i64 x.by_, .bool x.always, .slice A x.machines.length c] 32)) [] (by rw [hsz]; omega) (by simp)
      rw [hsz] at h3
      exact h3)
     have hby : Below w3.heap.size w3 ((w3.alloc (.cells #[.int .i64 x.kind, .int .i64 x.item, .int .i64 x.other, .int .i64 x.n, .int .i64 x.by_, .bool x.always, .slice A x.machines.length c] 32)).alloc (.cells #[] 3)) := ((Below.refl _ _).alloc (Nat.le_refl _) _).alloc (by simp) _
     have HI0 := hide ((HII.out _ (HS3.out.b.trans (hby.mono HS3.out.b.size))))
     have HBK := hide (show Blk ((w3.alloc (.cells #[.int .i64 x.kind, .int .i64 x.item, .int .i64 x.other, .int .i64 x.n, .int .i64 x.by_, .bool x.always, .slice A x.machines.length c] 32)).alloc (.cells #[] 3)) w3.heap.size 32 #[.int .i64 x.kind, .int .i64 x.item, .int .i64 x.other, .int .i64 x.n, .int .i64 x.by_, .bool x.always, .slice A x.machines.length c] from (Blk.new w3 _ _).alloc _)
     have HBY := hide hby
     have HLB := hide (show w3.heap.size + 1 ≤ ((w3.alloc (.cells #[.int .i64 x.kind, .int .i64 x.item, .int .i64 x.other, .int .i64 x.n, .int .i64 x.by_, .bool x.always, .slice A x.machines.length c] 32)).alloc (.cells #[] 3)).heap.size by simp)
     have HML := hide (show ([] : List Int).length + x.machines.length ≤ 1099511627776 by have := HM24.out; simp; omega)
     clear hsz hby g1 g2 g3
     have hw5 : w.heap.size + 1 + 1 + 1 < w3.heap.size := HS3.out.f.lt
     go_upto_region 7 with (first
      | (at_builtin
         refine append_ints rfl _ _ rfl (w3.heap.size + 1) (.slice (some ⟨w3.heap.size + 1, 0, none⟩) 0 0) [] rfl HO0.out _ A c x.machines rfl HI0.out HML.out HLB.out ?_
         intro v4 w4 ho4 hg4 _
         have hb4 : Below w3.heap.size w3 w4 := HBY.out.grown hg4 (by have := HLB.out; omega) (fun kk hkk => by obtain rfl : w3.heap.size + 1 = kk := Option.some.inj hkk; omega)
         have HBK4 := hide (HBK.out.grown hg4 (by intro e; have e2 : w3.heap.size = w3.heap.size + 1 := Option.some.inj e; omega))
         have HBY4 := hide hb4
         have HO4 := hide ho4
         have HL4 := hide (show ([] ++ x.machines).length + [k].length ≤ 1099511627776 by have := HM24.out; simp; omega)
         have HLB4 := hide (show w3.heap.size + 1 ≤ (w4.alloc (.cells #[.int .i64 k] 3)).heap.size by have := HBK4.out.lt; simp; omega)
         have HR4 := hide (Ints.newRow2 w4 3 [k] rfl)
         clear ho4 hg4 hb4 HO0 HI0 HBK HBY HLB HML)
      | (at_builtin
         refine append_ints rfl _ _ rfl (w3.heap.size + 1) v4 ([] ++ x.machines) rfl (HO4.out.alloc _) _ (some ⟨w4.heap.size, 0, none⟩) 1 [k] rfl HR4.out HL4.out HLB4.out ?_
         intro v5 w5 ho5 hg5 _
         have HBK5 := hide ((HBK4.out.alloc (.cells #[.int .i64 k] 3)).grown hg5 (by intro e; have := (HO4.out.lt _ e.symm).1; omega))
         have HBY5 := hide ((HBY4.out.alloc HBY4.out.size (.cells #[.int .i64 k] 3)).grown hg5 (by have := HLB4.out; omega) (fun kk hkk => by have := (HO4.out.lt _ hkk).1; omega))
         have HO5 := hide ho5
         obtain ⟨A5, c5, hv5, _, _⟩ := ho5.form
         obtain ⟨n5, hn5⟩ : ∃ n5, n5 = ([] ++ x.machines ++ [k]).length := ⟨_, rfl⟩
         rw [← hn5] at hv5
         have HN5 := hide hn5
         have y6 : w5.cell? ⟨w3.heap.size, 6, none⟩ = some (.slice A x.machines.length c) := HBK5.out.cell 6
         have yl := HBK5.out.lt
         have yf := HBK5.out.frozen 6
         subst hv5
         clear ho5 hg5 hn5 HO4 HL4 HLB4 HR4 HBK4 HBY4))
     have HS6 := hide ((HS3.out.grow HBY5.out).set_ (b := w3.heap.size) 6 (.slice A5 n5 c5) hw5)
     have hbx6 : Blk (w5.setCell ⟨w3.heap.size, 6, none⟩ (.slice A5 n5 c5)) w3.heap.size 32 #[.int .i64 x.kind, .int .i64 x.item, .int .i64 x.other, .int .i64 x.n, .int .i64 x.by_, .bool x.always, .slice A5 n5 c5] := HBK5.out.set_ 6 (.slice A5 n5 c5)
     have HO6 := hide (OwnI.keepS HO5.out (g := w3.heap.size) 6 (.slice A5 n5 c5) (Nat.lt_succ_self _))
     obtain ⟨w6, hw6⟩ : ∃ w6, w6 = w5.setCell ⟨w3.heap.size, 6, none⟩ (.slice A5 n5 c5) := ⟨_, rfl⟩
     rw [← hw6] at HS6 hbx6 HO6 ⊢
     obtain ⟨bw, hbw⟩ : ∃ bw, bw = w3.heap.size := ⟨_, rfl⟩
     rw [← hbw] at hbx6 hw5 HO6 ⊢
     have HB6 := hide hbx6
     have y0 : w6.cell? ⟨bw, 0, none⟩ = some (.int .i64 x.kind) := hbx6.cell 0
     have y1 : w6.cell? ⟨bw, 1, none⟩ = some (.int .i64 x.item) := hbx6.cell 1
     have y2 : w6.cell? ⟨bw, 2, none⟩ = some (.int .i64 x.other) := hbx6.cell 2
     have y3 : w6.cell? ⟨bw, 3, none⟩ = some (.int .i64 x.n) := hbx6.cell 3
     have y4 : w6.cell? ⟨bw, 4, none⟩ = some (.int .i64 x.by_) := hbx6.cell 4
     have y5 : w6.cell? ⟨bw, 5, none⟩ = some (.bool x.always) := hbx6.cell 5
     have y7 : w6.cell? ⟨bw, 6, none⟩ = some (.slice A5 n5 c5) := hbx6.cell 6
     have zl := hbx6.lt
     have zf := hbx6.frozen 3
     clear hw6 hbw hbx6 y6 yl yf HBK5 HBY5 HO5 HS3 a0 a1 a2 a3 a4 a5 a6 a7 a8 a9 a10 x0 x1 x2 x3 x4 x5 x6 p0 f0 f1 l1 l2 l3 l4 HS1 HS2 HS
     obtain ⟨⟨a0, a1, a2, a3, a4, a5, a6, a7, a8, a9, a10⟩, ⟨x0, x1, x2, x3, x4, x5, x6⟩, p0, f0, f1⟩ := HS6.out.cells
     have l1 := HS6.out.m.lt
     have l2 := HS6.out.x.lt
     have l3 := HS6.out.p.lt
     have l4 := HS6.out.f.lt
     have hmc : (weakR x k).machines = [] ++ x.machines ++ [k] := by simp [weakR]
     have HCO := hide (fun (W : World) (nw : Int) (hn : (weakR x k).n = nw) (hW : Below w.heap.size w W) (ho : OwnI (bw + 1) W (.slice A5 n5 c5) ([] ++ x.machines ++ [k])) => (show Calls Tryz.prog 11 #[.agg #[.slice h.s m.sT.length h.sc, .slice h.f m.fT.length h.fc, .slice h.r m.rT.length h.rc, .slice h.m m.mT.length h.mc, .slice h.l m.lT.length h.lc, .slice h.i m.iT.length h.ic, .int .i64 m.dT, .int .i64 m.oT, .int .i64 m.vT, .int .i64 m.aT, .slice h.u m.uT.length h.uc], .agg #[.int .i64 x.kind, .int .i64 x.item, .int .i64 x.other, .int .i64 nw, .int .i64 x.by_, .bool x.always, .slice A5 n5 c5], .agg #[.slice Ap p.length cp], .agg #[.int .i64 f.1, .int .i64 f.2]] W (AnsR W (.bool true)) from by
      obtain ⟨A6, c6, hv6, _, hi6⟩ := ho.form
      simp only [Value.slice.injEq] at hv6
      obtain ⟨e1, e2, e3⟩ := hv6
      have := HG2.out W hW A5 c5 (by rw [e1, hmc]; exact hi6) (by rw [hmc]; have := HM24.out; simp; omega)
      rw [HW.out, hn, hmc, ← HN5.out] at this
      exact this))
     clear hmc
     rcases hB2 (x.kind == 1) with g1 | g1
     · rcases hB2 (x.kind == 2) with g2 | g2
       · have HNW := hide (show (weakR x k).n = x.n by unfold weakR; rw [if_neg (by simpa using g1), if_neg (by simpa using g2)])
         go_wp2_with (go_at_call 11; (with_reducible refine (HCO.out _ _ HNW.out HS6.out.b HO6.out).mono ?_); rintro e w7 ⟨rfl, hb⟩; have HS7 := hide (HS6.out.grow hb); clear hb)
         go_ret
         exact ⟨rfl, HS7.out.b⟩
       · have HNW := hide (show (weakR x k).n = x.n + k by unfold weakR; rw [if_neg (by simpa using g1), if_pos (by simpa using g2)])
         have HS8 := hide (HS6.out.set_ (b := bw) 3 (.int .i64 (x.n + k)) hw5)
         have HO8 := hide (OwnI.keepS HO6.out (g := bw) 3 (.int .i64 (x.n + k)) (Nat.lt_succ_self _))
         go_wp2_with (go_at_call 11; (with_reducible refine (HCO.out _ _ HNW.out HS8.out.b HO8.out).mono ?_); rintro e w7 ⟨rfl, hb⟩; have HS7 := hide (HS8.out.grow hb); clear hb)
         go_ret
         exact ⟨rfl, HS7.out.b⟩
     · have HNW := hide (show (weakR x k).n = x.n - k by unfold weakR; rw [if_pos (by simpa using g1)])
       have HS8 := hide (HS6.out.set_ (b := bw) 3 (.int .i64 (x.n - k)) hw5)
       have HO8 := hide (OwnI.keepS HO6.out (g := bw) 3 (.int .i64 (x.n - k)) (Nat.lt_succ_self _))
       go_wp2_with (go_at_call 11; (with_reducible refine (HCO.out _ _ HNW.out HS8.out.b HO8.out).mono ?_); rintro e w7 ⟨rfl, hb⟩; have HS7 := hide (HS8.out.grow hb); clear hb)
       go_ret
       exact ⟨rfl, HS7.out.b⟩
   · go_ret
     exact ⟨rfl, HS2.out.b⟩
end Go.Proofs.YtlnjaemdelnceaaGreatDoor
