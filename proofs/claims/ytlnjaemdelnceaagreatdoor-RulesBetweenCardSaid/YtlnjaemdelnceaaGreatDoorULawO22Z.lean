/- A part of the claim: see its last text. -/
import Derived.Test.YtlnjaemdelnceaaGreatDoorULaw22cZ

set_option maxRecDepth 100000
set_option maxHeartbeats 16000000
namespace Go.Proofs.YtlnjaemdelnceaaGreatDoor
open Go Go.RowKit Go.Proofs
theorem O4.grown {w : World} {M X P Q : Array Value} {W W2 : World} (s : O4 w M X P Q W) (hb : Below W.heap.size W W2) : O4 w M X P Q W2 := s.grow hb
theorem O4.dr {w : World} {M X P Q : Array Value} {W : World} (s : O4 w M X P Q W) : O4 w M X P Q W.drew := s.grow (Below.refl _ W).drew
theorem O4.cel {w : World} {h : MH} {m : Mod} {x : RuleM} {A Ap Aq : Option Addr} {c kp kq cp cq : Nat} {W : World} (s : O4 w #[.slice h.s m.sT.length h.sc, .slice h.f m.fT.length h.fc, .slice h.r m.rT.length h.rc, .slice h.m m.mT.length h.mc, .slice h.l m.lT.length h.lc, .slice h.i m.iT.length h.ic, .int .i64 m.dT, .int .i64 m.oT, .int .i64 m.vT, .int .i64 m.aT, .slice h.u m.uT.length h.uc] #[.int .i64 x.kind, .int .i64 x.item, .int .i64 x.other, .int .i64 x.n, .int .i64 x.by_, .bool x.always, .slice A x.machines.length c] #[.slice Ap kp cp] #[.slice Aq kq cq] W) :
    (W.cell? ⟨w.heap.size, 0, none⟩ = some (.slice h.s m.sT.length h.sc) ∧ W.cell? ⟨w.heap.size, 1, none⟩ = some (.slice h.f m.fT.length h.fc) ∧ W.cell? ⟨w.heap.size, 2, none⟩ = some (.slice h.r m.rT.length h.rc) ∧ W.cell? ⟨w.heap.size, 3, none⟩ = some (.slice h.m m.mT.length h.mc) ∧ W.cell? ⟨w.heap.size, 4, none⟩ = some (.slice h.l m.lT.length h.lc) ∧ W.cell? ⟨w.heap.size, 5, none⟩ = some (.slice h.i m.iT.length h.ic) ∧ W.cell? ⟨w.heap.size, 6, none⟩ = some (.int .i64 m.dT) ∧ W.cell? ⟨w.heap.size, 7, none⟩ = some (.int .i64 m.oT) ∧ W.cell? ⟨w.heap.size, 8, none⟩ = some (.int .i64 m.vT) ∧ W.cell? ⟨w.heap.size, 9, none⟩ = some (.int .i64 m.aT) ∧ W.cell? ⟨w.heap.size, 10, none⟩ = some (.slice h.u m.uT.length h.uc)) ∧ (W.cell? ⟨w.heap.size + 1, 0, none⟩ = some (.int .i64 x.kind) ∧ W.cell? ⟨w.heap.size + 1, 1, none⟩ = some (.int .i64 x.item) ∧ W.cell? ⟨w.heap.size + 1, 2, none⟩ = some (.int .i64 x.other) ∧ W.cell? ⟨w.heap.size + 1, 3, none⟩ = some (.int .i64 x.n) ∧ W.cell? ⟨w.heap.size + 1, 4, none⟩ = some (.int .i64 x.by_) ∧ W.cell? ⟨w.heap.size + 1, 5, none⟩ = some (.bool x.always) ∧ W.cell? ⟨w.heap.size + 1, 6, none⟩ = some (.slice A x.machines.length c)) ∧ W.cell? ⟨w.heap.size + 1 + 1, 0, none⟩ = some (.slice Ap kp cp) ∧ W.cell? ⟨w.heap.size + 1 + 1 + 1, 0, none⟩ = some (.slice Aq kq cq) :=
 ⟨MB.cells s.m, ⟨s.x.cell 0, s.x.cell 1, s.x.cell 2, s.x.cell 3, s.x.cell 4, s.x.cell 5, s.x.cell 6⟩, s.p.cell 0, s.q.cell 0⟩
theorem rulesBetween_walk (h : MH) (m : Mod) (x : RuleM) (A : Option Addr) (c : Nat) (Ap Aq : Option Addr) (cp cq : Nat) (p q : PlaceM) (w : World) (d : MD w w.heap.size h m)
    (hP : PR w w.heap.size Ap p) (hQ : PR w w.heap.size Aq q) (hpl : p.length ≤ 9223372036854775807) (hql : q.length ≤ 9223372036854775807) (ha : Asc w) (hpw : Pow w) :
    Calls Tryz.prog 5 #[.agg #[.slice h.s m.sT.length h.sc, .slice h.f m.fT.length h.fc, .slice h.r m.rT.length h.rc, .slice h.m m.mT.length h.mc, .slice h.l m.lT.length h.lc, .slice h.i m.iT.length h.ic, .int .i64 m.dT, .int .i64 m.oT, .int .i64 m.vT, .int .i64 m.aT, .slice h.u m.uT.length h.uc], .agg #[.int .i64 x.kind, .int .i64 x.item, .int .i64 x.other, .int .i64 x.n, .int .i64 x.by_, .bool x.always, .slice A x.machines.length c], .agg #[.slice Ap p.length cp], .agg #[.slice Aq q.length cq]] w (AnsR w (.bool true)) := by
 have hS := O4.start w #[.slice h.s m.sT.length h.sc, .slice h.f m.fT.length h.fc, .slice h.r m.rT.length h.rc, .slice h.m m.mT.length h.mc, .slice h.l m.lT.length h.lc, .slice h.i m.iT.length h.ic, .int .i64 m.dT, .int .i64 m.oT, .int .i64 m.vT, .int .i64 m.aT, .slice h.u m.uT.length h.uc] #[.int .i64 x.kind, .int .i64 x.item, .int .i64 x.other, .int .i64 x.n, .int .i64 x.by_, .bool x.always, .slice A x.machines.length c] #[.slice Ap p.length cp] #[.slice Aq q.length cq]
 have HAW := hide (awake22 _ (ha.below (Nat.le_refl _) hS.b) (hpw.below (Nat.le_refl _) hS.b))
 have HLA := hide (fun W (hW : Below w.heap.size w W) => large_two h m Ap Aq cp cq p q W (d.grow hW) ⟨hpl, hql⟩ (hP.grow hW) (hQ.grow hW))
 have HO1 := hide (fun (hp1 : p.length ≤ 24 ∧ q.length ≤ 24) (hp2 : (∀ l ∈ p, l.length ≤ 24) ∧ ∀ l ∈ q, l.length ≤ 24) W (hW : Below w.heap.size w W) => order_prog h m x A c Ap Aq cp cq p q W (d.grow hW) (hP.grow hW) (hQ.grow hW) (by omega) (by omega) (small_units hp2.1 _) (small_units hp2.1 _) (small_units hp2.2 _))
 have HO2 := hide (fun (hp1 : p.length ≤ 24 ∧ q.length ≤ 24) (hp2 : (∀ l ∈ p, l.length ≤ 24) ∧ ∀ l ∈ q, l.length ≤ 24) W (hW : Below w.heap.size w W) => order_ref h m x A c Ap Aq cp cq p q W (d.grow hW) (hP.grow hW) (hQ.grow hW) (by omega) (by omega) (small_units hp2.1 _) (small_units hp2.1 _) (small_units hp2.2 _))
 have HF1 := hide (fun (hm : FewL m) (hp1 : q.length ≤ 24) (hp2 : ∀ l ∈ q, l.length ≤ 24) W (hW : Below w.heap.size w W) => final_prog h m Aq cq q W (d.grow hW) (hQ.grow hW) (by have := hm.li; omega) (by omega) (small_units hp2))
 have HF2 := hide (fun (hm : FewL m) (hp1 : q.length ≤ 24) (hp2 : ∀ l ∈ q, l.length ≤ 24) W (hW : Below w.heap.size w W) => final_ref h m Aq cq q W (d.grow hW) (hQ.grow hW) (by have := hm.li; omega) (by omega) (small_units hp2))
 have HS := hide hS
 clear d hP hQ ha hpw hS
 obtain ⟨t, ht⟩ : ∃ t, t = orderB m x p q := ⟨_, rfl⟩
 rw [← ht] at HO1 HO2
 obtain ⟨⟨b1, b2, b3⟩, hf⟩ : ∃ t, t = finalM m q := ⟨_, rfl⟩
 rw [← hf] at HF1 HF2
 dsimp only at HF1 HF2
 clear ht hf
 go_enter Tryz.func5, Tryz.ntmps5
 go_upto_region 7 with (first
     | (go_at_call 9; refine HAW.out.mono ?_; rintro e w1 ⟨rfl, hb⟩
        have HS1 := hide (HS.out.grow hb)
        obtain ⟨⟨a0, a1, a2, a3, a4, a5, a6, a7, a8, a9, a10⟩, ⟨x0, x1, x2, x3, x4, x5, x6⟩, p0, q0⟩ := HS1.out.cel
        have l1 := HS1.out.m.lt
        have l3 := HS1.out.p.lt
        have l4 := HS1.out.q.lt
        clear hb)
     | (go_at_call 10; (with_reducible refine (HLA.out _ HS1.out.b).mono ?_); rintro e w2 ⟨b, rfl, hb, hlg⟩
        have HS2 := hide (HS1.out.grow (((Below.refl _ _).alloc (Nat.le_refl _) _).trans (hb.mono (by simp))))
        have HLG := hide hlg
        clear hb hlg a0 a1 a2 a3 a4 a5 a6 a7 a8 a9 a10 x0 x1 x2 x3 x4 x5 x6 p0 q0 l1 l3 l4
        obtain ⟨⟨a0, a1, a2, a3, a4, a5, a6, a7, a8, a9, a10⟩, ⟨x0, x1, x2, x3, x4, x5, x6⟩, p0, q0⟩ := HS2.out.cel
        have l1 := HS2.out.m.lt
        have l3 := HS2.out.p.lt
        have l4 := HS2.out.q.lt
        cases b)
     | (go_at_call 19
        obtain ⟨hm, hp⟩ := HLG.out (by first | trivial | rfl)
        have HG1 := hide (HF1.out hm (hp q (by simp)).1 (hp q (by simp)).2)
        have HG2 := hide (HF2.out hm (hp q (by simp)).1 (hp q (by simp)).2)
        have HE1 := hide (HO1.out ⟨(hp p (by simp)).1, (hp q (by simp)).1⟩ ⟨(hp p (by simp)).2, (hp q (by simp)).2⟩)
        have HE2 := hide (HO2.out ⟨(hp p (by simp)).1, (hp q (by simp)).1⟩ ⟨(hp p (by simp)).2, (hp q (by simp)).2⟩)
        clear hm hp HF1 HF2 HO1 HO2 HLG HLA HAW
        (with_reducible refine (HG1.out _ HS2.out.b).mono ?_); rintro e w3 ⟨rfl, hb⟩
        have HS3 := hide (HS2.out.grow hb)
        clear hb a0 a1 a2 a3 a4 a5 a6 a7 a8 a9 a10 x0 x1 x2 x3 x4 x5 x6 p0 q0 l1 l3 l4
        obtain ⟨⟨a0, a1, a2, a3, a4, a5, a6, a7, a8, a9, a10⟩, ⟨x0, x1, x2, x3, x4, x5, x6⟩, p0, q0⟩ := HS3.out.cel
        have l1 := HS3.out.m.lt
        have l4 := HS3.out.q.lt)
     | (go_at_call 20
        (with_reducible refine (HG2.out _ HS3.out.b).mono ?_); rintro e w4 ⟨rfl, hb⟩
        have HS4 := hide (HS3.out.grow hb)
        clear hb a0 a1 a2 a3 a4 a5 a6 a7 a8 a9 a10 x0 x1 x2 x3 x4 x5 x6 p0 q0 l1 l4))
 · cases t <;> cases b3
   all_goals
    go_region_held3 (fun W => ((W.cell? ⟨w.heap.size, 0, none⟩ = some (.slice h.s m.sT.length h.sc) ∧ W.cell? ⟨w.heap.size, 1, none⟩ = some (.slice h.f m.fT.length h.fc) ∧ W.cell? ⟨w.heap.size, 2, none⟩ = some (.slice h.r m.rT.length h.rc) ∧ W.cell? ⟨w.heap.size, 3, none⟩ = some (.slice h.m m.mT.length h.mc) ∧ W.cell? ⟨w.heap.size, 4, none⟩ = some (.slice h.l m.lT.length h.lc) ∧ W.cell? ⟨w.heap.size, 5, none⟩ = some (.slice h.i m.iT.length h.ic) ∧ W.cell? ⟨w.heap.size, 6, none⟩ = some (.int .i64 m.dT) ∧ W.cell? ⟨w.heap.size, 7, none⟩ = some (.int .i64 m.oT) ∧ W.cell? ⟨w.heap.size, 8, none⟩ = some (.int .i64 m.vT) ∧ W.cell? ⟨w.heap.size, 9, none⟩ = some (.int .i64 m.aT) ∧ W.cell? ⟨w.heap.size, 10, none⟩ = some (.slice h.u m.uT.length h.uc)) ∧ (W.cell? ⟨w.heap.size + 1, 0, none⟩ = some (.int .i64 x.kind) ∧ W.cell? ⟨w.heap.size + 1, 1, none⟩ = some (.int .i64 x.item) ∧ W.cell? ⟨w.heap.size + 1, 2, none⟩ = some (.int .i64 x.other) ∧ W.cell? ⟨w.heap.size + 1, 3, none⟩ = some (.int .i64 x.n) ∧ W.cell? ⟨w.heap.size + 1, 4, none⟩ = some (.int .i64 x.by_) ∧ W.cell? ⟨w.heap.size + 1, 5, none⟩ = some (.bool x.always) ∧ W.cell? ⟨w.heap.size + 1, 6, none⟩ = some (.slice A x.machines.length c)) ∧ W.cell? ⟨w.heap.size + 1 + 1, 0, none⟩ = some (.slice Ap p.length cp) ∧ W.cell? ⟨w.heap.size + 1 + 1 + 1, 0, none⟩ = some (.slice Aq q.length cq)) ∧ O4 w #[.slice h.s m.sT.length h.sc, .slice h.f m.fT.length h.fc, .slice h.r m.rT.length h.rc, .slice h.m m.mT.length h.mc, .slice h.l m.lT.length h.lc, .slice h.i m.iT.length h.ic, .int .i64 m.dT, .int .i64 m.oT, .int .i64 m.vT, .int .i64 m.aT, .slice h.u m.uT.length h.uc] #[.int .i64 x.kind, .int .i64 x.item, .int .i64 x.other, .int .i64 x.n, .int .i64 x.by_, .bool x.always, .slice A x.machines.length c] #[.slice Ap p.length cp] #[.slice Aq q.length cq] W)
     ((with_reducible (first | exact ⟨O4.cel (O4.dr HS4.out), O4.dr HS4.out⟩ | exact ⟨O4.cel c2, c2⟩ | exact ⟨O4.cel c1, c1⟩)))
     ((first
       | (go_at_call 21; (with_reducible refine (HE1.out _ (O4.b (O4.dr HS4.out))).mono ?_); rintro e w5 ⟨rfl, hb⟩; have c1 := O4.grow (O4.dr HS4.out) hb; clear hb)
       | (go_at_call 22; (with_reducible refine (HE2.out _ (O4.b c1)).mono ?_); rintro e w6 ⟨rfl, hb⟩; have c2 := O4.grow c1 hb; clear hb)))
    go_wp2_with fail
    go_ret
    exact ⟨rfl, c2.b⟩
 · go_ret
   exact ⟨rfl, HS2.out.b⟩
end Go.Proofs.YtlnjaemdelnceaaGreatDoor
