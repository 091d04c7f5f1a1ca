/- A part of the claim: see its last text. -/
import Derived.Test.YtlnjaemdelnceaaGreatDoorULaw22cZ

set_option maxRecDepth 100000
set_option maxHeartbeats 16000000
namespace Go.Proofs.YtlnjaemdelnceaaGreatDoor
open Go Go.RowKit Go.Proofs
theorem rulesHold_walk (h : MH) (m : Mod) (x : RuleM) (A : Option Addr) (c : Nat) (Ap : Option Addr) (cp : Nat) (p : PlaceM) (f : Int × Int) (w : World) (d : MD w w.heap.size h m) (hI : Ints w w.heap.size A x.machines) (hml : x.machines.length ≤ 9223372036854775807)
    (hP : PR w w.heap.size Ap p) (hpl : p.length ≤ 9223372036854775807) (ha : Asc w) (hpw : Pow w) :
    Calls Tryz.prog 3 #[.agg #[.slice h.s m.sT.length h.sc, .slice h.f m.fT.length h.fc, .slice h.r m.rT.length h.rc, .slice h.m m.mT.length h.mc, .slice h.l m.lT.length h.lc, .slice h.i m.iT.length h.ic, .int .i64 m.dT, .int .i64 m.oT, .int .i64 m.vT, .int .i64 m.aT, .slice h.u m.uT.length h.uc], .agg #[.int .i64 x.kind, .int .i64 x.item, .int .i64 x.other, .int .i64 x.n, .int .i64 x.by_, .bool x.always, .slice A x.machines.length c], .agg #[.slice Ap p.length cp], .agg #[.int .i64 f.1, .int .i64 f.2]] w (AnsR w (.bool true)) := by
 have hS := S4.start w #[.slice h.s m.sT.length h.sc, .slice h.f m.fT.length h.fc, .slice h.r m.rT.length h.rc, .slice h.m m.mT.length h.mc, .slice h.l m.lT.length h.lc, .slice h.i m.iT.length h.ic, .int .i64 m.dT, .int .i64 m.oT, .int .i64 m.vT, .int .i64 m.aT, .slice h.u m.uT.length h.uc] #[.int .i64 x.kind, .int .i64 x.item, .int .i64 x.other, .int .i64 x.n, .int .i64 x.by_, .bool x.always, .slice A x.machines.length c] #[.slice Ap p.length cp] #[.int .i64 f.1, .int .i64 f.2]
 have HAW := hide (awake22 _ (ha.below (Nat.le_refl _) hS.b) (hpw.below (Nat.le_refl _) hS.b))
 have HLA := hide (fun W (hW : Below w.heap.size w W) => large_one h m Ap cp p W (d.grow hW) hpl (hP.grow hW))
 have HH1 := hide (fun (hm : FewL m) (hp1 : p.length ≤ 24) (hp2 : ∀ l ∈ p, l.length ≤ 24) W (hW : Below w.heap.size w W) => holds_prog h m x A c Ap cp p f W ⟨d.grow hW, hI.grow hW, hml, hP.grow hW, by omega, small_units hp2 _, hm.m.doms _⟩)
 have HH2 := hide (fun (hm : FewL m) (hp1 : p.length ≤ 24) (hp2 : ∀ l ∈ p, l.length ≤ 24) W (hW : Below w.heap.size w W) => holds22_ref h m x A c Ap cp p f W ⟨d.grow hW, hI.grow hW, hml, hP.grow hW, by omega, small_units hp2 _, hm.m.doms _⟩)
 have HF1 := hide (fun (hm : FewL m) W => fails_prog h m hm.m x A c W)
 have HF2 := hide (fun (hm : FewL m) W => failures_ref h m hm.m x A c W)
 have HS := hide hS
 have hB2 : ∀ b : Bool, b = false ∨ b = true := fun b => by cases b <;> simp
 clear d hI hP ha hpw hS
 obtain ⟨q, hq⟩ : ∃ q, q = holdsR m x p f := ⟨_, rfl⟩
 rw [← hq] at HH1 HH2
 obtain ⟨L, hL⟩ : ∃ L, L = failuresR m x := ⟨_, rfl⟩
 have HLL := hide (show FewL m → L.length ≤ 401 from fun hm => by rw [hL]; exact failuresR_len hm.m x)
 rw [← hL] at HF1 HF2
 clear hq hL
 go_enter Tryz.func3, Tryz.ntmps3
 rcases hB2 (decide ((24 : Int) < (x.machines.length : Int))) with g | g
 all_goals
  go_wp2_with (first
   | (go_at_call 9; refine HAW.out.mono ?_; rintro e w1 ⟨rfl, hb⟩
      have HS1 := hide (HS.out.grow hb)
      obtain ⟨⟨a0, a1, a2, a3, a4, a5, a6, a7, a8, a9, a10⟩, ⟨x0, x1, x2, x3, x4, x5, x6⟩, p0, f0, f1⟩ := HS1.out.cells
      have l1 := HS1.out.m.lt
      have l2 := HS1.out.x.lt
      have l3 := HS1.out.p.lt
      clear hb)
   | (go_at_call 10; (with_reducible refine (HLA.out _ HS1.out.b).mono ?_); rintro e w2 ⟨b, rfl, hb, hlg⟩
      have HS2 := hide (HS1.out.grow (((Below.refl _ _).alloc (Nat.le_refl _) _).trans (hb.mono (by simp))))
      have HLG := hide hlg
      clear hb hlg a0 a1 a2 a3 a4 a5 a6 a7 a8 a9 a10 x0 x1 x2 x3 x4 x5 x6 p0 f0 f1 l1 l2 l3
      obtain ⟨⟨a0, a1, a2, a3, a4, a5, a6, a7, a8, a9, a10⟩, ⟨x0, x1, x2, x3, x4, x5, x6⟩, p0, f0, f1⟩ := HS2.out.cells
      have l1 := HS2.out.m.lt
      have l2 := HS2.out.x.lt
      have l3 := HS2.out.p.lt
      cases b))
 · clear a0 a1 a2 a3 a4 a5 a6 a7 a8 a9 a10 x0 x1 x2 x3 x4 x5 x6 p0 f0 f1 l1 l2 l3
   obtain ⟨hm, hp⟩ := HLG.out (by first | trivial | rfl)
   obtain ⟨hp1, hp2⟩ := hp p (by simp)
   have HG1 := hide (HH1.out hm hp1 hp2)
   have HG2 := hide (HH2.out hm hp1 hp2)
   have HE1 := hide (HF1.out hm)
   have HE2 := hide (HF2.out hm)
   have HLN := hide (HLL.out hm)
   clear hm hp hp1 hp2 HH1 HH2 HF1 HF2 HLL HLG HLA HAW
   cases q
   all_goals
    go_region_held3 (fun W => ((W.cell? ⟨w.heap.size, 0, none⟩ = some (.slice h.s m.sT.length h.sc) ∧ W.cell? ⟨w.heap.size, 1, none⟩ = some (.slice h.f m.fT.length h.fc) ∧ W.cell? ⟨w.heap.size, 2, none⟩ = some (.slice h.r m.rT.length h.rc) ∧ W.cell? ⟨w.heap.size, 3, none⟩ = some (.slice h.m m.mT.length h.mc) ∧ W.cell? ⟨w.heap.size, 4, none⟩ = some (.slice h.l m.lT.length h.lc) ∧ W.cell? ⟨w.heap.size, 5, none⟩ = some (.slice h.i m.iT.length h.ic) ∧ W.cell? ⟨w.heap.size, 6, none⟩ = some (.int .i64 m.dT) ∧ W.cell? ⟨w.heap.size, 7, none⟩ = some (.int .i64 m.oT) ∧ W.cell? ⟨w.heap.size, 8, none⟩ = some (.int .i64 m.vT) ∧ W.cell? ⟨w.heap.size, 9, none⟩ = some (.int .i64 m.aT) ∧ W.cell? ⟨w.heap.size, 10, none⟩ = some (.slice h.u m.uT.length h.uc)) ∧ (W.cell? ⟨w.heap.size + 1, 0, none⟩ = some (.int .i64 x.kind) ∧ W.cell? ⟨w.heap.size + 1, 1, none⟩ = some (.int .i64 x.item) ∧ W.cell? ⟨w.heap.size + 1, 2, none⟩ = some (.int .i64 x.other) ∧ W.cell? ⟨w.heap.size + 1, 3, none⟩ = some (.int .i64 x.n) ∧ W.cell? ⟨w.heap.size + 1, 4, none⟩ = some (.int .i64 x.by_) ∧ W.cell? ⟨w.heap.size + 1, 5, none⟩ = some (.bool x.always) ∧ W.cell? ⟨w.heap.size + 1, 6, none⟩ = some (.slice A x.machines.length c)) ∧ W.cell? ⟨w.heap.size + 1 + 1, 0, none⟩ = some (.slice Ap p.length cp) ∧ W.cell? ⟨w.heap.size + 1 + 1 + 1, 0, none⟩ = some (.int .i64 f.1) ∧ W.cell? ⟨w.heap.size + 1 + 1 + 1, 1, none⟩ = some (.int .i64 f.2)) ∧ S4 w #[.slice h.s m.sT.length h.sc, .slice h.f m.fT.length h.fc, .slice h.r m.rT.length h.rc, .slice h.m m.mT.length h.mc, .slice h.l m.lT.length h.lc, .slice h.i m.iT.length h.ic, .int .i64 m.dT, .int .i64 m.oT, .int .i64 m.vT, .int .i64 m.aT, .slice h.u m.uT.length h.uc] #[.int .i64 x.kind, .int .i64 x.item, .int .i64 x.other, .int .i64 x.n, .int .i64 x.by_, .bool x.always, .slice A x.machines.length c] #[.slice Ap p.length cp] #[.int .i64 f.1, .int .i64 f.2] W)
     ((with_reducible (first | exact ⟨S4.cells HS2.out.drew, HS2.out.drew⟩ | exact ⟨S4.cells c5, c5⟩ | exact ⟨S4.cells c4, c4⟩ | exact ⟨S4.cells c3, c3⟩ | exact ⟨S4.cells c2, c2⟩ | exact ⟨S4.cells c1, c1⟩)))
     ((first
       | (go_at_call 11; (with_reducible refine (HG1.out _ HS2.out.drew.b).mono ?_); rintro e w3 ⟨rfl, hb⟩; have c1 := S4.grow HS2.out.drew hb; clear hb)
       | (go_at_call 12; (with_reducible refine (HG2.out _ (S4.b c1)).mono ?_); rintro e w4 ⟨rfl, hb⟩; have c2 := S4.grow c1 hb; clear hb)
       | (go_at_call 14; (with_reducible refine (HE1.out _).mono ?_); rintro e w5 ⟨v5, rfl, ho, hb⟩; obtain ⟨A5, c5', rfl, hr5, _⟩ := ho.form; have c3 := S4.grow c2 hb; clear hb ho)
       | (go_at_call 15; (with_reducible refine (HE2.out _).mono ?_); rintro e w6 ⟨v6, rfl, ho, hb⟩; obtain ⟨A6, c6', rfl, hr6, _⟩ := ho.form; have hr56 := hr5.grow hb; have c4 := S4.grow c3 hb; clear hb ho)
       | (go_at_call 13; refine (same21_ref A5 A6 c5' c6' L _ hr56 hr6 (by have := HLN.out; omega)).mono ?_; rintro e w7 ⟨rfl, hb⟩; have c5 := S4.grow c4 hb; clear hb)))
    go_wp2_with fail
    go_ret
    exact ⟨rfl, c5.b⟩
 all_goals
  go_ret
  exact ⟨rfl, HS2.out.b⟩
end Go.Proofs.YtlnjaemdelnceaaGreatDoor
