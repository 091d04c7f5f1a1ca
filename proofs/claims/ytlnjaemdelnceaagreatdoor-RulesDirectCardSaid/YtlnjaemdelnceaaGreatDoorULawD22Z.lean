/- A part of the claim: see its last text. -/
import Derived.Test.YtlnjaemdelnceaaGreatDoorULaw22eZ
import Derived.Test.YtlnjaemdelnceaaGreatDoorUK44

set_option maxRecDepth 100000
set_option maxHeartbeats 16000000
namespace Go.Proofs.YtlnjaemdelnceaaGreatDoor
open Go Go.RowKit Go.Proofs
theorem OwnI.at_ {B : Nat} {w : World} {v : Value} {l : List Int} (h : OwnI B w v l) : ∃ A c, v = .slice A l.length c ∧ Ints w w.heap.size A l := by
 obtain ⟨A, c, e, _, hi⟩ := h.form
 exact ⟨A, c, e, hi⟩
theorem state_there {p : PlaceM} {o n : Int} (h : ∃ u ∈ unitsP p o, u.1 = n) : (stateP p o n).isSome = true := by
 obtain ⟨u, hu, e⟩ := h
 unfold stateP
 rw [Option.isSome_map, List.find?_isSome]
 exact ⟨u, hu, by simpa using e⟩
structure D3 (w : World) (M P : Array Value) (bv br : Nat) (V R : Array Value) (W : World) : Prop where
 s : MPB w M P W
 v : Blk W bv 54 V
 r : Blk W br 32 R
theorem D3.grow {w : World} {M P : Array Value} {bv br : Nat} {V R : Array Value} {W W2 : World} (s : D3 w M P bv br V R W) (hb : Below W.heap.size W W2) : D3 w M P bv br V R W2 := ⟨s.s.grow hb, s.v.below hb s.v.lt, s.r.below hb s.r.lt⟩
theorem rulesDirect_walk (h : MH) (m : Mod) (Ap : Option Addr) (cp : Nat) (p : PlaceM) (w : World) (d : MD w w.heap.size h m) (hP : PR w w.heap.size Ap p) (hpl : p.length ≤ 9223372036854775807) (ha : Asc w) (hpw : Pow w) :
    Calls Tryz.prog 7 #[.agg #[.slice h.s m.sT.length h.sc, .slice h.f m.fT.length h.fc, .slice h.r m.rT.length h.rc, .slice h.m m.mT.length h.mc, .slice h.l m.lT.length h.lc, .slice h.i m.iT.length h.ic, .int .i64 m.dT, .int .i64 m.oT, .int .i64 m.vT, .int .i64 m.aT, .slice h.u m.uT.length h.uc], .agg #[.slice Ap p.length cp]] w (AnsR w (.bool true)) := by
 have hS := MPB.start w #[.slice h.s m.sT.length h.sc, .slice h.f m.fT.length h.fc, .slice h.r m.rT.length h.rc, .slice h.m m.mT.length h.mc, .slice h.l m.lT.length h.lc, .slice h.i m.iT.length h.ic, .int .i64 m.dT, .int .i64 m.oT, .int .i64 m.vT, .int .i64 m.aT, .slice h.u m.uT.length h.uc] #[.slice Ap p.length cp]
 have HAW := hide (awake22 _ (ha.below (Nat.le_refl _) hS.b) (hpw.below (Nat.le_refl _) hS.b))
 have HLA := hide (fun W (hW : Below w.heap.size w W) => large_one h m Ap cp p W (d.grow hW) hpl (hP.grow hW))
 have HPV := hide (fun W (hW : Below w.heap.size w W) => place_valid h m Ap cp p W (d.grow hW) (hP.grow hW) hpl)
 have HI1 := hide (fun (hm : FewL m) (hp1 : p.length ≤ 24) (hp2 : ∀ l ∈ p, l.length ≤ 24) W (hW : Below w.heap.size w W) => instant_prog h m Ap cp p 0 W (d.grow hW) hm.m (by have := hm.lu; omega) (md_rules d) (hP.grow hW) (by omega) (small_units hp2))
 have HH1 := hide (fun (hm : FewL m) (hp1 : p.length ≤ 24) (hp2 : ∀ l ∈ p, l.length ≤ 24) (x : RuleM) A c (hI : Ints w w.heap.size A x.machines) (hml : x.machines.length ≤ 9223372036854775807) (e : Int × Int) W (hW : Below w.heap.size w W) => holds_prog h m x A c Ap cp p e W ⟨d.grow hW, hI.grow hW, hml, hP.grow hW, by omega, small_units hp2 _, hm.m.doms _⟩)
 have HF1 := hide (fun (hm : FewL m) x A c W => fails_prog h m hm.m x A c W)
 have HSP := hide (fun (hm : FewL m) (hp1 : p.length ≤ 24) (hp2 : ∀ l ∈ p, l.length ≤ 24) it bY W (hW : Below w.heap.size w W) => spread_ref h m Ap cp p it bY W (d.grow hW) (hP.grow hW) (by omega) (small_units hp2 _) (hm.m.doms _))
 have HST := hide (fun (hp2 : ∀ l ∈ p, l.length ≤ 24) it mc W (hW : Below w.heap.size w W) => state_ref Ap cp p it mc W (hP.grow hW) hpl (by have := small_units hp2 it; omega))
 have HD0 := hide d
 have ul := d.ul
 have HS := hide hS
 have hB2 : ∀ b : Bool, b = false ∨ b = true := fun b => by cases b <;> simp
 clear d hP ha hpw hS
 obtain ⟨vp, hvp⟩ : ∃ b, b = validPl m p := ⟨_, rfl⟩
 rw [← hvp] at HPV
 clear hvp
 obtain ⟨sA, sC, fA, fC, rA, rC, mA, mC, lA, lC, iA, iC, uA, uC⟩ := h
 dsimp only at HS HAW HLA HPV HI1 HH1 HF1 HSP ⊢
 go_enter Tryz.func7, Tryz.ntmps7
 cases vp
 all_goals
  go_upto_region 5 with (first
   | (go_at_call 9; refine HAW.out.mono ?_; rintro e w1 ⟨rfl, hb⟩
      have HS1 := hide (HS.out.grow hb)
      obtain ⟨⟨a0, a1, a2, a3, a4, a5, a6, a7, a8, a9, a10⟩, p0, l1, l2⟩ := MPB.cells2 (h := ⟨sA, sC, fA, fC, rA, rC, mA, mC, lA, lC, iA, iC, uA, uC⟩) HS1.out
      clear hb)
   | (go_at_call 10; (with_reducible refine (HLA.out _ HS1.out.b).mono ?_); rintro e w2 ⟨b, rfl, hb, hlg⟩
      have HS2 := hide (HS1.out.grow (((Below.refl _ _).alloc (Nat.le_refl _) _).trans (hb.mono (by simp))))
      have HLG := hide hlg
      clear hb hlg a0 a1 a2 a3 a4 a5 a6 a7 a8 a9 a10 p0 l1 l2
      obtain ⟨⟨a0, a1, a2, a3, a4, a5, a6, a7, a8, a9, a10⟩, p0, l1, l2⟩ := MPB.cells2 (h := ⟨sA, sC, fA, fC, rA, rC, mA, mC, lA, lC, iA, iC, uA, uC⟩) HS2.out
      cases b)
   | (go_at_call 23; (with_reducible refine (HPV.out _ HS2.out.b).mono ?_); rintro e w3 ⟨rfl, hb⟩
      have HS3 := hide (HS2.out.grow hb)
      clear hb a0 a1 a2 a3 a4 a5 a6 a7 a8 a9 a10 p0 l1 l2
      obtain ⟨⟨a0, a1, a2, a3, a4, a5, a6, a7, a8, a9, a10⟩, p0, l1, l2⟩ := MPB.cells2 (h := ⟨sA, sC, fA, fC, rA, rC, mA, mC, lA, lC, iA, iC, uA, uC⟩) HS3.out))
 rotate_left 2
 · obtain ⟨hm, hp⟩ := HLG.out (by first | trivial | rfl)
   have hp1 := (hp p (by simp)).1
   have hp2 := (hp p (by simp)).2
   have HI := hide (HI1.out hm hp1 hp2)
   have HH := hide (HH1.out hm hp1 hp2)
   have HF := hide (HF1.out hm)
   have HSR := hide (HSP.out hm hp1 hp2)
   have HTR := hide (HST.out hp2)
   have HRL := hide (show m.uT.length ≤ 48 from hm.lu)
   have HDM := hide (fun i => hm.m.doms i)
   have HFL := hide (fun x => failuresR_len hm.m x)
   have HTL := hide (fun k => instTo_len hm.m p 0 k)
   have HC := HS3
   clear hm hp hp1 hp2 HI1 HH1 HF1 HSP HST HLG HLA HAW HPV HS HS1 HS2 HS3
   go_upto_region 8 with (go_at_call 17; (with_reducible refine (HI.out _ HC.out.b).mono ?_); rintro e w4 ⟨v4, rfl, ho, hb⟩; obtain ⟨A4, c4, rfl, hrd⟩ := ho.rd; have HRD := hide hrd; have HD := hide (HC.out.grow hb); clear HC hb ho hrd a0 a1 a2 a3 a4 a5 a6 a7 a8 a9 a10 p0 l1 l2)
   have HVS := hide (fun v (hv : v ∈ instantM m p 0) => inst_says hv)
   have HTC := hide (fun k (hk : k < m.uT.length) => instTo_succ m p 0 hk)
   have HTE := hide (show instantM m p 0 = instTo m p 0 m.uT.length from rfl)
   obtain ⟨l, hl⟩ : ∃ l, l = instantM m p 0 := ⟨_, rfl⟩
   rw [← hl] at HRD HVS HTE ⊢
   clear hl
   go_loopw [6, 7] (fun v i wr => ∃ k n : Nat, k ≤ m.uT.length ∧ i = .int .i64 k ∧ v = .int .i64 n ∧ Hid (n = (instTo m p 0 k).length) ∧ Hid (MPB w #[.slice sA m.sT.length sC, .slice fA m.fT.length fC, .slice rA m.rT.length rC, .slice mA m.mT.length mC, .slice lA m.lT.length lC, .slice iA m.iT.length iC, .int .i64 m.dT, .int .i64 m.oT, .int .i64 m.vT, .int .i64 m.aT, .slice uA m.uT.length uC] #[.slice Ap p.length cp] wr) ∧ Hid (Below w4.heap.size w4 wr)) (fun _ i _ => m.uT.length - (intOf i).toNat)
   case atStart => exact ⟨0, 0, Nat.zero_le _, rfl, rfl, rfl, HD.out, Below.refl _ _⟩
   case round =>
    clear HD
    obtain ⟨k, n, hk, rfl, rfl, hn, hS, hB⟩ := hrel
    obtain ⟨⟨a0, a1, a2, a3, a4, a5, a6, a7, a8, a9, a10⟩, p0, l1, l2⟩ := MPB.cells2 (h := ⟨sA, sC, fA, fC, rA, rC, mA, mC, lA, lC, iA, iC, uA, uC⟩) hS.out
    dsimp only at a10
    by_cases hlt : k < m.uT.length
    · obtain ⟨b, off, A2, c2, hA, hb, x0, x1, x2, x3, x4, x5, x6, k1, k2, hI⟩ := HD0.out.dU.rule hlt
      dsimp only at hA
      obtain ⟨x, hx⟩ : ∃ x, m.uT[k] = x := ⟨_, rfl⟩
      have hTC := HTC.out k hlt
      rw [hx] at x0 x1 x2 x3 x4 x5 x6 k1 hI hTC
      obtain ⟨kd, it, ot, nn, bY, al, ms⟩ := x
      dsimp only at x0 x1 x2 x3 x4 x5 x6 k1 hI
      have HHx := hide (fun e W (hW : Below w.heap.size w W) => HH.out ⟨kd, it, ot, nn, bY, al, ms⟩ A2 c2 hI (show ms.length ≤ 9223372036854775807 by omega) e W hW)
      have HFx := hide (fun W => HF.out ⟨kd, it, ot, nn, bY, al, ms⟩ A2 c2 W)
      have HLx := hide (HFL.out ⟨kd, it, ot, nn, bY, al, ms⟩)
      dsimp only at HHx HFx
      have hVO := fun q (hq : q < (failuresR m ⟨kd, it, ot, nn, bY, al, ms⟩).length) => instF_succ m p 0 k ⟨kd, it, ot, nn, bY, al, ms⟩ hq
      obtain ⟨L, hL⟩ : ∃ L, L = failuresR m ⟨kd, it, ot, nn, bY, al, ms⟩ := ⟨_, rfl⟩
      have HL0 := hide hL
      rw [← hL] at HFx HLx hTC
      subst hA
      have HX := hide (fun (W : World) (s : MPB w #[.slice sA m.sT.length sC, .slice fA m.fT.length fC, .slice rA m.rT.length rC, .slice mA m.mT.length mC, .slice lA m.lT.length lC, .slice iA m.iT.length iC, .int .i64 m.dT, .int .i64 m.oT, .int .i64 m.vT, .int .i64 m.aT, .slice (some ⟨b, off, none⟩) m.uT.length uC] #[.slice Ap p.length cp] W) => (show W.cell? ⟨b, off + k * 7, none⟩ = some (.int .i64 kd) ∧ W.cell? ⟨b, off + k * 7 + 1, none⟩ = some (.int .i64 it) ∧ W.cell? ⟨b, off + k * 7 + 2, none⟩ = some (.int .i64 ot) ∧ W.cell? ⟨b, off + k * 7 + 3, none⟩ = some (.int .i64 nn) ∧ W.cell? ⟨b, off + k * 7 + 4, none⟩ = some (.int .i64 bY) ∧ W.cell? ⟨b, off + k * 7 + 5, none⟩ = some (.bool al) ∧ W.cell? ⟨b, off + k * 7 + 6, none⟩ = some (.slice A2 ms.length c2) from
       ⟨(s.b.cell (p := ⟨b, off + k * 7, none⟩) hb).trans x0, (s.b.cell (p := ⟨b, off + k * 7 + 1, none⟩) hb).trans x1, (s.b.cell (p := ⟨b, off + k * 7 + 2, none⟩) hb).trans x2, (s.b.cell (p := ⟨b, off + k * 7 + 3, none⟩) hb).trans x3, (s.b.cell (p := ⟨b, off + k * 7 + 4, none⟩) hb).trans x4, (s.b.cell (p := ⟨b, off + k * 7 + 5, none⟩) hb).trans x5, (s.b.cell (p := ⟨b, off + k * 7 + 6, none⟩) hb).trans x6⟩))
      have HKA := hide (fun (W : World) (s : MPB w #[.slice sA m.sT.length sC, .slice fA m.fT.length fC, .slice rA m.rT.length rC, .slice mA m.mT.length mC, .slice lA m.lT.length lC, .slice iA m.iT.length iC, .int .i64 m.dT, .int .i64 m.oT, .int .i64 m.vT, .int .i64 m.aT, .slice (some ⟨b, off, none⟩) m.uT.length uC] #[.slice Ap p.length cp] W) => (show ((W.cell? ⟨w.heap.size, 0, none⟩ = some (.slice sA m.sT.length sC) ∧ W.cell? ⟨w.heap.size, 1, none⟩ = some (.slice fA m.fT.length fC) ∧ W.cell? ⟨w.heap.size, 2, none⟩ = some (.slice rA m.rT.length rC) ∧ W.cell? ⟨w.heap.size, 3, none⟩ = some (.slice mA m.mT.length mC) ∧ W.cell? ⟨w.heap.size, 4, none⟩ = some (.slice lA m.lT.length lC) ∧ W.cell? ⟨w.heap.size, 5, none⟩ = some (.slice iA m.iT.length iC) ∧ W.cell? ⟨w.heap.size, 6, none⟩ = some (.int .i64 m.dT) ∧ W.cell? ⟨w.heap.size, 7, none⟩ = some (.int .i64 m.oT) ∧ W.cell? ⟨w.heap.size, 8, none⟩ = some (.int .i64 m.vT) ∧ W.cell? ⟨w.heap.size, 9, none⟩ = some (.int .i64 m.aT) ∧ W.cell? ⟨w.heap.size, 10, none⟩ = some (.slice (some ⟨b, off, none⟩) m.uT.length uC)) ∧ (W.cell? ⟨b, off + k * 7, none⟩ = some (.int .i64 kd) ∧ W.cell? ⟨b, off + k * 7 + 1, none⟩ = some (.int .i64 it) ∧ W.cell? ⟨b, off + k * 7 + 2, none⟩ = some (.int .i64 ot) ∧ W.cell? ⟨b, off + k * 7 + 3, none⟩ = some (.int .i64 nn) ∧ W.cell? ⟨b, off + k * 7 + 4, none⟩ = some (.int .i64 bY) ∧ W.cell? ⟨b, off + k * 7 + 5, none⟩ = some (.bool al) ∧ W.cell? ⟨b, off + k * 7 + 6, none⟩ = some (.slice A2 ms.length c2))) from ⟨MB.cells (h := ⟨sA, sC, fA, fC, rA, rC, mA, mC, lA, lC, iA, iC, some ⟨b, off, none⟩, uC⟩) s.m, HX.out W s⟩))
      have HTQ := hide hTC
      have HLT := hide hlt
      have hkI : (k : Int) < (m.uT.length : Int) := by omega
      have hbl : b < wr.heap.size := Nat.lt_of_lt_of_le hb hS.out.b.size
      clear x0 x1 x2 x3 x4 x5 x6 k1 k2 hI hb hx hTC hL hlt a0 a1 a2 a3 a4 a5 a6 a7 a8 a9 p0
      go_upto_region 10 with (fail)
      go_region_held3 (fun W => ((W.cell? ⟨w.heap.size, 0, none⟩ = some (.slice sA m.sT.length sC) ∧ W.cell? ⟨w.heap.size, 1, none⟩ = some (.slice fA m.fT.length fC) ∧ W.cell? ⟨w.heap.size, 2, none⟩ = some (.slice rA m.rT.length rC) ∧ W.cell? ⟨w.heap.size, 3, none⟩ = some (.slice mA m.mT.length mC) ∧ W.cell? ⟨w.heap.size, 4, none⟩ = some (.slice lA m.lT.length lC) ∧ W.cell? ⟨w.heap.size, 5, none⟩ = some (.slice iA m.iT.length iC) ∧ W.cell? ⟨w.heap.size, 6, none⟩ = some (.int .i64 m.dT) ∧ W.cell? ⟨w.heap.size, 7, none⟩ = some (.int .i64 m.oT) ∧ W.cell? ⟨w.heap.size, 8, none⟩ = some (.int .i64 m.vT) ∧ W.cell? ⟨w.heap.size, 9, none⟩ = some (.int .i64 m.aT) ∧ W.cell? ⟨w.heap.size, 10, none⟩ = some (.slice (some ⟨b, off, none⟩) m.uT.length uC)) ∧ (W.cell? ⟨b, off + k * 7, none⟩ = some (.int .i64 kd) ∧ W.cell? ⟨b, off + k * 7 + 1, none⟩ = some (.int .i64 it) ∧ W.cell? ⟨b, off + k * 7 + 2, none⟩ = some (.int .i64 ot) ∧ W.cell? ⟨b, off + k * 7 + 3, none⟩ = some (.int .i64 nn) ∧ W.cell? ⟨b, off + k * 7 + 4, none⟩ = some (.int .i64 bY) ∧ W.cell? ⟨b, off + k * 7 + 5, none⟩ = some (.bool al) ∧ W.cell? ⟨b, off + k * 7 + 6, none⟩ = some (.slice A2 ms.length c2))))
       ((with_reducible (first | exact HKA.out _ (MPB.drew hS.out) | exact HKA.out _ c1)))
       ((go_at_call 14; (with_reducible refine (HFx.out _).mono ?_); rintro e w5 ⟨v5, rfl, ho, hb2⟩; obtain ⟨A5, c5, rfl, hr5, hl5⟩ := ho.form; have HR5 := hide hr5; have c1 := MPB.grow (MPB.drew hS.out) hb2; have HB5 := hide (hB.out.trans ((below_drawn (Below.refl _ _) 1).trans hb2 |>.mono hB.out.size)); clear hb2 ho hr5))
      have hLEN := fun q (hq : q < L.length) => (show (instF m p 0 k ⟨kd, it, ot, nn, bY, al, ms⟩ (q + 1)).length = (instF m p 0 k ⟨kd, it, ot, nn, bY, al, ms⟩ q).length + if holdsR m ⟨kd, it, ot, nn, bY, al, ms⟩ p L[q] then 0 else 1 from by
       have hL0 := HL0.out
       subst hL0
       rw [hVO q hq, List.length_append, vioOf_len2])
      have HLEN := hide hLEN
      have HN0 := hide hn
      have HC5 := hide c1
      clear hLEN hVO hn c1 a10 l1 l2 hS hbl
      go_upto_region 11 with (fail)
      go_loopw [6, 9, 46] (fun v _ i wr => ∃ q n2 : Nat, q ≤ L.length ∧ i = .int .i64 q ∧ v = .int .i64 n2 ∧ Hid (n2 = (instTo m p 0 k).length + (instF m p 0 k ⟨kd, it, ot, nn, bY, al, ms⟩ q).length) ∧ Hid (MPB w #[.slice sA m.sT.length sC, .slice fA m.fT.length fC, .slice rA m.rT.length rC, .slice mA m.mT.length mC, .slice lA m.lT.length lC, .slice iA m.iT.length iC, .int .i64 m.dT, .int .i64 m.oT, .int .i64 m.vT, .int .i64 m.aT, .slice (some ⟨b, off, none⟩) m.uT.length uC] #[.slice Ap p.length cp] wr) ∧ Hid (Below w5.heap.size w5 wr)) (fun _ _ i _ => L.length - (intOf i).toNat)
      case atStart => exact ⟨0, n, Nat.zero_le _, rfl, rfl, HN0.out, HC5.out, Below.refl _ _⟩
      case round =>
       clear HC5
       obtain ⟨q, n2, hq, rfl, rfl, hn2, hS2, hB2'⟩ := hrel
       by_cases hql : q < L.length
       · obtain ⟨bg, og, hA5, hbg, y0, y1⟩ := (HR5.out.grow hB2'.out).at_ hql
         have hL1 := HLEN.out q hql
         obtain ⟨e1, he1⟩ : ∃ e, e = L[q] := ⟨_, rfl⟩
         rw [← he1] at y0 y1 hL1
         obtain ⟨hv, hhv⟩ : ∃ hv, hv = holdsR m ⟨kd, it, ot, nn, bY, al, ms⟩ p e1 := ⟨_, rfl⟩
         have HE := hide (HHx.out e1)
         rw [← hhv] at HE hL1
         have HL1 := hide hL1
         have hqI : (q : Int) < (L.length : Int) := by omega
         have HQL := hide hql
         have hbf := Blk.new wr 37 #[.int .i64 e1.1, .int .i64 e1.2]
         have hsf := hS2.out.grow ((Below.refl _ _).alloc (Nat.le_refl _) (.cells #[.int .i64 e1.1, .int .i64 e1.2] 37))
         have hbe : Below wr.heap.size wr (wr.alloc (.cells #[.int .i64 e1.1, .int .i64 e1.2] 37)) := (Below.refl _ _).alloc (Nat.le_refl _) _
         obtain ⟨n3, hn3⟩ : ∃ n3, n3 = n2 := ⟨_, rfl⟩
         have HNB := hide (show n2 ≤ 100000 by
          have h1 := hn2.out
          have h2 := HTL.out k
          have h3 : k * 401 ≤ 48 * 401 := Nat.mul_le_mul_right _ (by have := HLT.out; have := HRL.out; omega)
          have h4 := instF_len m p 0 k ⟨kd, it, ot, nn, bY, al, ms⟩ q
          have h5 := HLx.out
          omega)
         have HBF := hide hbf
         have HSF := hide hsf
         have HBE := hide (hB2'.out.trans (hbe.mono hB2'.out.size))
         have HX2 := hide (HX.out _ hsf)
         have HM2 := hide (MB.cells (h := ⟨sA, sC, fA, fC, rA, rC, mA, mC, lA, lC, iA, iC, some ⟨b, off, none⟩, uC⟩) hsf.m)
         subst hA5
         clear he1 hhv hL1 hql hbf hsf hbe hn3 n3
         obtain ⟨⟨a0, a1, a2, a3, a4, a5, a6, a7, a8, a9, a10⟩, p0, l1, l2⟩ := MPB.cells2 (h := ⟨sA, sC, fA, fC, rA, rC, mA, mC, lA, lC, iA, iC, some ⟨b, off, none⟩, uC⟩) hS2.out
         clear a0 a1 a2 a3 a4 a5 a6 a7 a8 a9 a10 p0
         go_upto_region 13 with (fail)
         have HK2 := hide (fun (W : World) (s : MPB w #[.slice sA m.sT.length sC, .slice fA m.fT.length fC, .slice rA m.rT.length rC, .slice mA m.mT.length mC, .slice lA m.lT.length lC, .slice iA m.iT.length iC, .int .i64 m.dT, .int .i64 m.oT, .int .i64 m.vT, .int .i64 m.aT, .slice (some ⟨b, off, none⟩) m.uT.length uC] #[.slice Ap p.length cp] W) (bk : Blk W wr.heap.size 37 #[.int .i64 e1.1, .int .i64 e1.2]) => (show ((W.cell? ⟨w.heap.size, 0, none⟩ = some (.slice sA m.sT.length sC) ∧ W.cell? ⟨w.heap.size, 1, none⟩ = some (.slice fA m.fT.length fC) ∧ W.cell? ⟨w.heap.size, 2, none⟩ = some (.slice rA m.rT.length rC) ∧ W.cell? ⟨w.heap.size, 3, none⟩ = some (.slice mA m.mT.length mC) ∧ W.cell? ⟨w.heap.size, 4, none⟩ = some (.slice lA m.lT.length lC) ∧ W.cell? ⟨w.heap.size, 5, none⟩ = some (.slice iA m.iT.length iC) ∧ W.cell? ⟨w.heap.size, 6, none⟩ = some (.int .i64 m.dT) ∧ W.cell? ⟨w.heap.size, 7, none⟩ = some (.int .i64 m.oT) ∧ W.cell? ⟨w.heap.size, 8, none⟩ = some (.int .i64 m.vT) ∧ W.cell? ⟨w.heap.size, 9, none⟩ = some (.int .i64 m.aT) ∧ W.cell? ⟨w.heap.size, 10, none⟩ = some (.slice (some ⟨b, off, none⟩) m.uT.length uC)) ∧ (W.cell? ⟨b, off + k * 7, none⟩ = some (.int .i64 kd) ∧ W.cell? ⟨b, off + k * 7 + 1, none⟩ = some (.int .i64 it) ∧ W.cell? ⟨b, off + k * 7 + 2, none⟩ = some (.int .i64 ot) ∧ W.cell? ⟨b, off + k * 7 + 3, none⟩ = some (.int .i64 nn) ∧ W.cell? ⟨b, off + k * 7 + 4, none⟩ = some (.int .i64 bY) ∧ W.cell? ⟨b, off + k * 7 + 5, none⟩ = some (.bool al) ∧ W.cell? ⟨b, off + k * 7 + 6, none⟩ = some (.slice A2 ms.length c2)) ∧ W.cell? ⟨w.heap.size + 1, 0, none⟩ = some (.slice Ap p.length cp) ∧ W.cell? ⟨wr.heap.size, 0, none⟩ = some (.int .i64 e1.1) ∧ W.cell? ⟨wr.heap.size, 1, none⟩ = some (.int .i64 e1.2)) from ⟨MB.cells (h := ⟨sA, sC, fA, fC, rA, rC, mA, mC, lA, lC, iA, iC, some ⟨b, off, none⟩, uC⟩) s.m, HX.out W s, s.p.cell 0, bk.cell 0, bk.cell 1⟩))
         clear HX2 HM2
         cases hv
         all_goals
          go_region_held3 (fun W => ((W.cell? ⟨w.heap.size, 0, none⟩ = some (.slice sA m.sT.length sC) ∧ W.cell? ⟨w.heap.size, 1, none⟩ = some (.slice fA m.fT.length fC) ∧ W.cell? ⟨w.heap.size, 2, none⟩ = some (.slice rA m.rT.length rC) ∧ W.cell? ⟨w.heap.size, 3, none⟩ = some (.slice mA m.mT.length mC) ∧ W.cell? ⟨w.heap.size, 4, none⟩ = some (.slice lA m.lT.length lC) ∧ W.cell? ⟨w.heap.size, 5, none⟩ = some (.slice iA m.iT.length iC) ∧ W.cell? ⟨w.heap.size, 6, none⟩ = some (.int .i64 m.dT) ∧ W.cell? ⟨w.heap.size, 7, none⟩ = some (.int .i64 m.oT) ∧ W.cell? ⟨w.heap.size, 8, none⟩ = some (.int .i64 m.vT) ∧ W.cell? ⟨w.heap.size, 9, none⟩ = some (.int .i64 m.aT) ∧ W.cell? ⟨w.heap.size, 10, none⟩ = some (.slice (some ⟨b, off, none⟩) m.uT.length uC)) ∧ (W.cell? ⟨b, off + k * 7, none⟩ = some (.int .i64 kd) ∧ W.cell? ⟨b, off + k * 7 + 1, none⟩ = some (.int .i64 it) ∧ W.cell? ⟨b, off + k * 7 + 2, none⟩ = some (.int .i64 ot) ∧ W.cell? ⟨b, off + k * 7 + 3, none⟩ = some (.int .i64 nn) ∧ W.cell? ⟨b, off + k * 7 + 4, none⟩ = some (.int .i64 bY) ∧ W.cell? ⟨b, off + k * 7 + 5, none⟩ = some (.bool al) ∧ W.cell? ⟨b, off + k * 7 + 6, none⟩ = some (.slice A2 ms.length c2)) ∧ W.cell? ⟨w.heap.size + 1, 0, none⟩ = some (.slice Ap p.length cp) ∧ W.cell? ⟨wr.heap.size, 0, none⟩ = some (.int .i64 e1.1) ∧ W.cell? ⟨wr.heap.size, 1, none⟩ = some (.int .i64 e1.2)))
           ((with_reducible (first | exact HK2.out _ (MPB.drew HSF.out) (Blk.drew HBF.out) | exact HK2.out _ c2 c3)))
           ((go_at_call 11; (with_reducible refine (HE.out _ (MPB.b (MPB.drew HSF.out))).mono ?_); rintro e w6 ⟨rfl, hb2⟩; have c2 := MPB.grow (MPB.drew HSF.out) hb2; have c3 := Blk.below (Blk.drew HBF.out) hb2 HBF.out.lt; have HB6 := hide (HBE.out.trans ((below_drawn (Below.refl _ _) 1).trans hb2 |>.mono HBE.out.size)); clear hb2))
         · have hnn : n2 + 1 ≤ 100001 := by have := HNB.out; omega
           go_wp2_with fail
           go_roundw
           case rel => exact ⟨q + 1, n2 + 1, by have := HQL.out; omega, by have := HQL.out; go_num, by go_num, hide (by have h1 := hn2.out; have h2 := HL1.out; rw [if_neg (by simp)] at h2; omega), c2, HB6⟩
           case measure => have := HQL.out; simp [intOf]; omega
         · go_wp2_with fail
           go_roundw
           case rel => exact ⟨q + 1, n2, by have := HQL.out; omega, by have := HQL.out; go_num, rfl, hide (by have h1 := hn2.out; have h2 := HL1.out; simp only [if_true] at h2; omega), c2, HB6⟩
           case measure => have := HQL.out; simp [intOf]; omega
       · obtain rfl : q = L.length := by omega
         have HNX := hide (show n2 = (instTo m p 0 (k + 1)).length by rw [hn2.out, HTQ.out, List.length_append])
         go_wp2_with fail
         go_roundw
         case rel => exact ⟨k + 1, n2, by have := HLT.out; omega, by have := HLT.out; go_num, rfl, HNX, hS2, HB5.out.trans (hB2'.out.mono HB5.out.size)⟩
         case measure => have := HLT.out; simp [intOf]; omega
    · obtain rfl : k = m.uT.length := by omega
      have HNL := hide (show n = l.length by rw [hn.out, HTE.out])
      have HC := hS
      clear hS hn hk hlt a0 a1 a2 a3 a4 a5 a6 a7 a8 a9 p0 l2
      have hll : l.length ≤ 100000 := by rw [HTE.out]; have h1 := HTL.out m.uT.length; have h2 : m.uT.length * 401 ≤ 48 * 401 := Nat.mul_le_mul_right _ HRL.out; omega
      go_upto_region 17 with (fail)
      clear a10 l1
      go_loopw [65] (fun i wr => ∃ j : Nat, j ≤ l.length ∧ i = .int .i64 j ∧ Hid (MPB w #[.slice sA m.sT.length sC, .slice fA m.fT.length fC, .slice rA m.rT.length rC, .slice mA m.mT.length mC, .slice lA m.lT.length lC, .slice iA m.iT.length iC, .int .i64 m.dT, .int .i64 m.oT, .int .i64 m.vT, .int .i64 m.aT, .slice uA m.uT.length uC] #[.slice Ap p.length cp] wr) ∧ Hid (Below w4.heap.size w4 wr)) (fun i _ => l.length - (intOf i).toNat)
      case atStart => exact ⟨0, Nat.zero_le _, rfl, HC.out, hB.out⟩
      case round =>
       clear HC hB
       obtain ⟨j, hj, rfl, hS, hB⟩ := hrel
       by_cases hlt : j < l.length
       · obtain ⟨v, hv⟩ : ∃ v, l[j] = v := ⟨_, rfl⟩
         obtain ⟨bw, ow, hA4, hbw, y0, y1, y2, y3, y4, y5, y6⟩ := (HRD.out.grow hB.out).at_ hlt hv
         obtain ⟨i, hi, e1, e2, e3, e4, e5⟩ := HVS.out v (by rw [← hv]; exact List.getElem_mem hlt)
         obtain ⟨b, off, A2, c2, hA, hb, x0, x1, x2, x3, x4, x5, x6, k1, k2, hI⟩ := HD0.out.dU.rule hi
         dsimp only at hA
         obtain ⟨x, hx⟩ : ∃ x, m.uT[i] = x := ⟨_, rfl⟩
         rw [hx] at e2 e3 e4 e5 x0 x1 x2 x3 x4 x5 x6 k1 hI
         rw [e2] at y0
         rw [e1] at y1
         rw [e3] at y5
         obtain ⟨vk, vr, vt, vb, vn, vi, va⟩ := v
         dsimp only at e4 e5 y2 y3 y4 y6
         obtain ⟨kd, it, ot, nn, bY, al, ms⟩ := x
         dsimp only at x0 x1 x2 x3 x4 x5 x6 k1 hI y0 y5
         have hml : ms.length ≤ 9223372036854775807 := by omega
         have HE0 := HH.out ⟨kd, it, ot, nn, bY, al, ms⟩ A2 c2 hI hml (vb, vn)
         rw [e4] at HE0
         have HE := hide HE0
         dsimp only at HE
         have HSx := hide (HSR.out it bY)
         have HTx := hide (HTR.out it va)
         have HIM := hide (fun W (hW : Below w.heap.size w W) => hasInt_ref A2 c2 ms va W hml (hI.grow hW))
         have HK2 := hide (fun (hk : kd = 2) => says_spread (m := m) (p := p) (v := ⟨kd, vr, vt, vb, vn, it, va⟩) (r := ⟨kd, it, ot, nn, bY, al, ms⟩) hk e4 e5)
         have HK3 := hide (fun (hk : kd = 3) => says_only (m := m) (p := p) (v := ⟨kd, vr, vt, vb, vn, it, va⟩) (r := ⟨kd, it, ot, nn, bY, al, ms⟩) hk e4 e5)
         subst hA hA4
         have hbq : b < wr.heap.size := Nat.lt_of_lt_of_le hb hS.out.b.size
         obtain ⟨z0, z1, z2, z3, z4, z5, z6⟩ : wr.cell? ⟨b, off + i * 7, none⟩ = some (.int .i64 kd) ∧ wr.cell? ⟨b, off + i * 7 + 1, none⟩ = some (.int .i64 it) ∧ wr.cell? ⟨b, off + i * 7 + 2, none⟩ = some (.int .i64 ot) ∧ wr.cell? ⟨b, off + i * 7 + 3, none⟩ = some (.int .i64 nn) ∧ wr.cell? ⟨b, off + i * 7 + 4, none⟩ = some (.int .i64 bY) ∧ wr.cell? ⟨b, off + i * 7 + 5, none⟩ = some (.bool al) ∧ wr.cell? ⟨b, off + i * 7 + 6, none⟩ = some (.slice A2 ms.length c2) := ⟨(hS.out.b.cell (p := ⟨b, off + i * 7, none⟩) hb).trans x0, (hS.out.b.cell (p := ⟨b, off + i * 7 + 1, none⟩) hb).trans x1, (hS.out.b.cell (p := ⟨b, off + i * 7 + 2, none⟩) hb).trans x2, (hS.out.b.cell (p := ⟨b, off + i * 7 + 3, none⟩) hb).trans x3, (hS.out.b.cell (p := ⟨b, off + i * 7 + 4, none⟩) hb).trans x4, (hS.out.b.cell (p := ⟨b, off + i * 7 + 5, none⟩) hb).trans x5, (hS.out.b.cell (p := ⟨b, off + i * 7 + 6, none⟩) hb).trans x6⟩
         obtain ⟨⟨a0, a1, a2, a3, a4, a5, a6, a7, a8, a9, a10⟩, p0, ml, pl⟩ := MPB.cells2 (h := ⟨sA, sC, fA, fC, rA, rC, mA, mC, lA, lC, iA, iC, some ⟨b, off, none⟩, uC⟩) hS.out
         have HJL := hide hlt
         have hjI : (j : Int) < (l.length : Int) := by omega
         have hiI : (i : Int) < (m.uT.length : Int) := by omega
         have hwi : IntKind.i64.wrap (i : Int) = i := IntWalk.i64_in _ (by have := HRL.out; omega)
         clear e1 e2 e3 e4 e5 hv hx x0 x1 x2 x3 x4 x5 x6 k1 k2 hI HE0 hb hlt hi
         go_upto_region 22 with (fail)
         have hsz : (wr.alloc (.cells #[.int .i64 kd, .int .i64 ((i : Int) + 1), .int .i64 vt, .int .i64 vb, .int .i64 vn, .int .i64 it, .int .i64 va] 54)).heap.size = wr.heap.size + 1 := by simp
         have hbe : Below wr.heap.size wr ((wr.alloc (.cells #[.int .i64 kd, .int .i64 ((i : Int) + 1), .int .i64 vt, .int .i64 vb, .int .i64 vn, .int .i64 it, .int .i64 va] 54)).alloc (.cells #[.int .i64 kd, .int .i64 it, .int .i64 ot, .int .i64 nn, .int .i64 bY, .bool al, .slice A2 ms.length c2] 32)) := ((Below.refl _ _).alloc (Nat.le_refl _) _).alloc (by simp) _
         have hd3 : D3 w #[.slice sA m.sT.length sC, .slice fA m.fT.length fC, .slice rA m.rT.length rC, .slice mA m.mT.length mC, .slice lA m.lT.length lC, .slice iA m.iT.length iC, .int .i64 m.dT, .int .i64 m.oT, .int .i64 m.vT, .int .i64 m.aT, .slice (some ⟨b, off, none⟩) m.uT.length uC] #[.slice Ap p.length cp] wr.heap.size (wr.heap.size + 1) #[.int .i64 kd, .int .i64 ((i : Int) + 1), .int .i64 vt, .int .i64 vb, .int .i64 vn, .int .i64 it, .int .i64 va] #[.int .i64 kd, .int .i64 it, .int .i64 ot, .int .i64 nn, .int .i64 bY, .bool al, .slice A2 ms.length c2] ((wr.alloc (.cells #[.int .i64 kd, .int .i64 ((i : Int) + 1), .int .i64 vt, .int .i64 vb, .int .i64 vn, .int .i64 it, .int .i64 va] 54)).alloc (.cells #[.int .i64 kd, .int .i64 it, .int .i64 ot, .int .i64 nn, .int .i64 bY, .bool al, .slice A2 ms.length c2] 32)) := ⟨hS.out.grow hbe, (Blk.new wr _ _).alloc _, by
          have := Blk.new (wr.alloc (.cells #[.int .i64 kd, .int .i64 ((i : Int) + 1), .int .i64 vt, .int .i64 vb, .int .i64 vn, .int .i64 it, .int .i64 va] 54)) 32 #[.int .i64 kd, .int .i64 it, .int .i64 ot, .int .i64 nn, .int .i64 bY, .bool al, .slice A2 ms.length c2]
          rw [hsz] at this
          exact this⟩
         obtain ⟨w5, hw5⟩ : ∃ w5, w5 = ((wr.alloc (.cells #[.int .i64 kd, .int .i64 ((i : Int) + 1), .int .i64 vt, .int .i64 vb, .int .i64 vn, .int .i64 it, .int .i64 va] 54)).alloc (.cells #[.int .i64 kd, .int .i64 it, .int .i64 ot, .int .i64 nn, .int .i64 bY, .bool al, .slice A2 ms.length c2] 32)) := ⟨_, rfl⟩
         obtain ⟨bv, hbv⟩ : ∃ bv, bv = wr.heap.size := ⟨_, rfl⟩
         obtain ⟨br, hbr⟩ : ∃ br, br = wr.heap.size + 1 := ⟨_, rfl⟩
         rw [← hw5] at hd3 hbe ⊢
         rw [← hbr, ← hbv] at hd3
         rw [← hbr, ← hbv]
         have HC := hide hd3
         have HB5 := hide (hB.out.trans (hbe.mono hB.out.size))
         clear hsz hbe hd3 hw5 hbv hbr z0 z1 z2 z3 z4 z5 z6 a0 a1 a2 a3 a4 a5 a6 a7 a8 a9 a10 p0 ml pl y0 y1 y2 y3 y4 y5 y6 hB hS hbq hbw hjI hiI hwi
         obtain ⟨⟨a0, a1, a2, a3, a4, a5, a6, a7, a8, a9, a10⟩, p0, ml, pl⟩ := MPB.cells2 (h := ⟨sA, sC, fA, fC, rA, rC, mA, mC, lA, lC, iA, iC, some ⟨b, off, none⟩, uC⟩) HC.out.s
         obtain ⟨v0, v1, v2, v3, v4, v5, v6⟩ : w5.cell? ⟨bv, 0, none⟩ = some (.int .i64 kd) ∧ w5.cell? ⟨bv, 1, none⟩ = some (.int .i64 ((i : Int) + 1)) ∧ w5.cell? ⟨bv, 2, none⟩ = some (.int .i64 vt) ∧ w5.cell? ⟨bv, 3, none⟩ = some (.int .i64 vb) ∧ w5.cell? ⟨bv, 4, none⟩ = some (.int .i64 vn) ∧ w5.cell? ⟨bv, 5, none⟩ = some (.int .i64 it) ∧ w5.cell? ⟨bv, 6, none⟩ = some (.int .i64 va) := ⟨HC.out.v.cell 0, HC.out.v.cell 1, HC.out.v.cell 2, HC.out.v.cell 3, HC.out.v.cell 4, HC.out.v.cell 5, HC.out.v.cell 6⟩
         obtain ⟨r0, r1, r2, r3, r4, r5, r6⟩ : w5.cell? ⟨br, 0, none⟩ = some (.int .i64 kd) ∧ w5.cell? ⟨br, 1, none⟩ = some (.int .i64 it) ∧ w5.cell? ⟨br, 2, none⟩ = some (.int .i64 ot) ∧ w5.cell? ⟨br, 3, none⟩ = some (.int .i64 nn) ∧ w5.cell? ⟨br, 4, none⟩ = some (.int .i64 bY) ∧ w5.cell? ⟨br, 5, none⟩ = some (.bool al) ∧ w5.cell? ⟨br, 6, none⟩ = some (.slice A2 ms.length c2) := ⟨HC.out.r.cell 0, HC.out.r.cell 1, HC.out.r.cell 2, HC.out.r.cell 3, HC.out.r.cell 4, HC.out.r.cell 5, HC.out.r.cell 6⟩
         have vl := HC.out.v.lt
         have rl := HC.out.r.lt
         rcases hB2 (kd == 2) with g2 | g2
         · rcases hB2 (kd == 3) with g3 | g3
           · go_upto_region 25 with (first
               | (go_at_call 11; (with_reducible refine (HE.out _ HC.out.s.b).mono ?_); rintro e w6 ⟨rfl, hb⟩
                  have HBY := hide (HB5.out.trans (hb.mono HB5.out.size))
                  have HQ := hide (HC.out.grow hb)
                  clear HC hb a0 a1 a2 a3 a4 a5 a6 a7 a8 a9 a10 p0 ml pl v0 v1 v2 v3 v4 v5 v6 r0 r1 r2 r3 r4 r5 r6 vl rl
                  have HC := HQ
                  clear HQ
                  obtain ⟨⟨a0, a1, a2, a3, a4, a5, a6, a7, a8, a9, a10⟩, p0, ml, pl⟩ := MPB.cells2 (h := ⟨sA, sC, fA, fC, rA, rC, mA, mC, lA, lC, iA, iC, some ⟨b, off, none⟩, uC⟩) HC.out.s
                  obtain ⟨v0, v1, v2, v3, v4, v5, v6⟩ : w6.cell? ⟨bv, 0, none⟩ = some (.int .i64 kd) ∧ w6.cell? ⟨bv, 1, none⟩ = some (.int .i64 ((i : Int) + 1)) ∧ w6.cell? ⟨bv, 2, none⟩ = some (.int .i64 vt) ∧ w6.cell? ⟨bv, 3, none⟩ = some (.int .i64 vb) ∧ w6.cell? ⟨bv, 4, none⟩ = some (.int .i64 vn) ∧ w6.cell? ⟨bv, 5, none⟩ = some (.int .i64 it) ∧ w6.cell? ⟨bv, 6, none⟩ = some (.int .i64 va) := ⟨HC.out.v.cell 0, HC.out.v.cell 1, HC.out.v.cell 2, HC.out.v.cell 3, HC.out.v.cell 4, HC.out.v.cell 5, HC.out.v.cell 6⟩
                  obtain ⟨r0, r1, r2, r3, r4, r5, r6⟩ : w6.cell? ⟨br, 0, none⟩ = some (.int .i64 kd) ∧ w6.cell? ⟨br, 1, none⟩ = some (.int .i64 it) ∧ w6.cell? ⟨br, 2, none⟩ = some (.int .i64 ot) ∧ w6.cell? ⟨br, 3, none⟩ = some (.int .i64 nn) ∧ w6.cell? ⟨br, 4, none⟩ = some (.int .i64 bY) ∧ w6.cell? ⟨br, 5, none⟩ = some (.bool al) ∧ w6.cell? ⟨br, 6, none⟩ = some (.slice A2 ms.length c2) := ⟨HC.out.r.cell 0, HC.out.r.cell 1, HC.out.r.cell 2, HC.out.r.cell 3, HC.out.r.cell 4, HC.out.r.cell 5, HC.out.r.cell 6⟩
                  have vl := HC.out.v.lt
                  have rl := HC.out.r.lt)
               | (go_at_call 24; (with_reducible refine (HSx.out _ HC.out.s.b).mono ?_); rintro e w7 ⟨v7, rfl, ho, hb⟩
                  obtain ⟨A7, c7, rfl, hi7⟩ := ho.at_
                  have HI7 := hide hi7
                  have HBX := hide (HBY.out.trans (hb.mono HBY.out.size))
                  clear ho hi7
                  have HQ := hide (HC.out.grow hb)
                  clear HC hb a0 a1 a2 a3 a4 a5 a6 a7 a8 a9 a10 p0 ml pl v0 v1 v2 v3 v4 v5 v6 r0 r1 r2 r3 r4 r5 r6 vl rl
                  have HC := HQ
                  clear HQ
                  obtain ⟨⟨a0, a1, a2, a3, a4, a5, a6, a7, a8, a9, a10⟩, p0, ml, pl⟩ := MPB.cells2 (h := ⟨sA, sC, fA, fC, rA, rC, mA, mC, lA, lC, iA, iC, some ⟨b, off, none⟩, uC⟩) HC.out.s
                  obtain ⟨v0, v1, v2, v3, v4, v5, v6⟩ : w7.cell? ⟨bv, 0, none⟩ = some (.int .i64 kd) ∧ w7.cell? ⟨bv, 1, none⟩ = some (.int .i64 ((i : Int) + 1)) ∧ w7.cell? ⟨bv, 2, none⟩ = some (.int .i64 vt) ∧ w7.cell? ⟨bv, 3, none⟩ = some (.int .i64 vb) ∧ w7.cell? ⟨bv, 4, none⟩ = some (.int .i64 vn) ∧ w7.cell? ⟨bv, 5, none⟩ = some (.int .i64 it) ∧ w7.cell? ⟨bv, 6, none⟩ = some (.int .i64 va) := ⟨HC.out.v.cell 0, HC.out.v.cell 1, HC.out.v.cell 2, HC.out.v.cell 3, HC.out.v.cell 4, HC.out.v.cell 5, HC.out.v.cell 6⟩
                  obtain ⟨r0, r1, r2, r3, r4, r5, r6⟩ : w7.cell? ⟨br, 0, none⟩ = some (.int .i64 kd) ∧ w7.cell? ⟨br, 1, none⟩ = some (.int .i64 it) ∧ w7.cell? ⟨br, 2, none⟩ = some (.int .i64 ot) ∧ w7.cell? ⟨br, 3, none⟩ = some (.int .i64 nn) ∧ w7.cell? ⟨br, 4, none⟩ = some (.int .i64 bY) ∧ w7.cell? ⟨br, 5, none⟩ = some (.bool al) ∧ w7.cell? ⟨br, 6, none⟩ = some (.slice A2 ms.length c2) := ⟨HC.out.r.cell 0, HC.out.r.cell 1, HC.out.r.cell 2, HC.out.r.cell 3, HC.out.r.cell 4, HC.out.r.cell 5, HC.out.r.cell 6⟩
                  have vl := HC.out.v.lt
                  have rl := HC.out.r.lt))
             first
              | (go_quiet (fail))
              | fail
             go_wp2_with (first
              | (go_at_call 25; (with_reducible refine (HTx.out _ (below_drawn HC.out.s.b _)).mono ?_); rintro e w8 ⟨rfl, hb⟩
                 have HBW := hide ((below_drawn HBX.out _).trans (hb.mono (below_drawn HBX.out _).size))
                 have HQ := hide (HC.out.grow ((below_drawn (Below.refl _ _) _).trans hb))
                 clear HC hb a0 a1 a2 a3 a4 a5 a6 a7 a8 a9 a10 p0 ml pl v0 v1 v2 v3 v4 v5 v6 r0 r1 r2 r3 r4 r5 r6 vl rl
                 have HC := HQ
                 clear HQ
                 obtain ⟨⟨a0, a1, a2, a3, a4, a5, a6, a7, a8, a9, a10⟩, p0, ml, pl⟩ := MPB.cells2 (h := ⟨sA, sC, fA, fC, rA, rC, mA, mC, lA, lC, iA, iC, some ⟨b, off, none⟩, uC⟩) HC.out.s
                 obtain ⟨v0, v1, v2, v3, v4, v5, v6⟩ : w8.cell? ⟨bv, 0, none⟩ = some (.int .i64 kd) ∧ w8.cell? ⟨bv, 1, none⟩ = some (.int .i64 ((i : Int) + 1)) ∧ w8.cell? ⟨bv, 2, none⟩ = some (.int .i64 vt) ∧ w8.cell? ⟨bv, 3, none⟩ = some (.int .i64 vb) ∧ w8.cell? ⟨bv, 4, none⟩ = some (.int .i64 vn) ∧ w8.cell? ⟨bv, 5, none⟩ = some (.int .i64 it) ∧ w8.cell? ⟨bv, 6, none⟩ = some (.int .i64 va) := ⟨HC.out.v.cell 0, HC.out.v.cell 1, HC.out.v.cell 2, HC.out.v.cell 3, HC.out.v.cell 4, HC.out.v.cell 5, HC.out.v.cell 6⟩
                 obtain ⟨r0, r1, r2, r3, r4, r5, r6⟩ : w8.cell? ⟨br, 0, none⟩ = some (.int .i64 kd) ∧ w8.cell? ⟨br, 1, none⟩ = some (.int .i64 it) ∧ w8.cell? ⟨br, 2, none⟩ = some (.int .i64 ot) ∧ w8.cell? ⟨br, 3, none⟩ = some (.int .i64 nn) ∧ w8.cell? ⟨br, 4, none⟩ = some (.int .i64 bY) ∧ w8.cell? ⟨br, 5, none⟩ = some (.bool al) ∧ w8.cell? ⟨br, 6, none⟩ = some (.slice A2 ms.length c2) := ⟨HC.out.r.cell 0, HC.out.r.cell 1, HC.out.r.cell 2, HC.out.r.cell 3, HC.out.r.cell 4, HC.out.r.cell 5, HC.out.r.cell 6⟩
                 have vl := HC.out.v.lt
                 have rl := HC.out.r.lt))
             go_roundw
             case rel => exact ⟨j + 1, by have := HJL.out; omega, by have := HJL.out; go_num, HC.out.s, HBW.out⟩
             case measure => have := HJL.out; simp [intOf]; omega
           · obtain ⟨hth, hnm⟩ := HK3.out (by simpa using g3)
             have HTH := hide (state_there hth)
             have HIN := hide (show decide (va ∈ ms) = false from decide_eq_false hnm)
             clear hth hnm
             go_upto_region 25 with (first
              | (go_at_call 11; (with_reducible refine (HE.out _ HC.out.s.b).mono ?_); rintro e w6 ⟨rfl, hb⟩
                 have HBY := hide (HB5.out.trans (hb.mono HB5.out.size))
                 have HQ := hide (HC.out.grow hb)
                 clear HC hb a0 a1 a2 a3 a4 a5 a6 a7 a8 a9 a10 p0 ml pl v0 v1 v2 v3 v4 v5 v6 r0 r1 r2 r3 r4 r5 r6 vl rl
                 have HC := HQ
                 clear HQ
                 obtain ⟨⟨a0, a1, a2, a3, a4, a5, a6, a7, a8, a9, a10⟩, p0, ml, pl⟩ := MPB.cells2 (h := ⟨sA, sC, fA, fC, rA, rC, mA, mC, lA, lC, iA, iC, some ⟨b, off, none⟩, uC⟩) HC.out.s
                 obtain ⟨v0, v1, v2, v3, v4, v5, v6⟩ : w6.cell? ⟨bv, 0, none⟩ = some (.int .i64 kd) ∧ w6.cell? ⟨bv, 1, none⟩ = some (.int .i64 ((i : Int) + 1)) ∧ w6.cell? ⟨bv, 2, none⟩ = some (.int .i64 vt) ∧ w6.cell? ⟨bv, 3, none⟩ = some (.int .i64 vb) ∧ w6.cell? ⟨bv, 4, none⟩ = some (.int .i64 vn) ∧ w6.cell? ⟨bv, 5, none⟩ = some (.int .i64 it) ∧ w6.cell? ⟨bv, 6, none⟩ = some (.int .i64 va) := ⟨HC.out.v.cell 0, HC.out.v.cell 1, HC.out.v.cell 2, HC.out.v.cell 3, HC.out.v.cell 4, HC.out.v.cell 5, HC.out.v.cell 6⟩
                 obtain ⟨r0, r1, r2, r3, r4, r5, r6⟩ : w6.cell? ⟨br, 0, none⟩ = some (.int .i64 kd) ∧ w6.cell? ⟨br, 1, none⟩ = some (.int .i64 it) ∧ w6.cell? ⟨br, 2, none⟩ = some (.int .i64 ot) ∧ w6.cell? ⟨br, 3, none⟩ = some (.int .i64 nn) ∧ w6.cell? ⟨br, 4, none⟩ = some (.int .i64 bY) ∧ w6.cell? ⟨br, 5, none⟩ = some (.bool al) ∧ w6.cell? ⟨br, 6, none⟩ = some (.slice A2 ms.length c2) := ⟨HC.out.r.cell 0, HC.out.r.cell 1, HC.out.r.cell 2, HC.out.r.cell 3, HC.out.r.cell 4, HC.out.r.cell 5, HC.out.r.cell 6⟩
                 have vl := HC.out.v.lt
                 have rl := HC.out.r.lt)
              | (go_at_call 24; (with_reducible refine (HSx.out _ HC.out.s.b).mono ?_); rintro e w7 ⟨v7, rfl, ho, hb⟩
                 obtain ⟨A7, c7, rfl, hi7⟩ := ho.at_
                 have HI7 := hide hi7
                 have HBX := hide (HBY.out.trans (hb.mono HBY.out.size))
                 clear ho hi7
                 have HQ := hide (HC.out.grow hb)
                 clear HC hb a0 a1 a2 a3 a4 a5 a6 a7 a8 a9 a10 p0 ml pl v0 v1 v2 v3 v4 v5 v6 r0 r1 r2 r3 r4 r5 r6 vl rl
                 have HC := HQ
                 clear HQ
                 obtain ⟨⟨a0, a1, a2, a3, a4, a5, a6, a7, a8, a9, a10⟩, p0, ml, pl⟩ := MPB.cells2 (h := ⟨sA, sC, fA, fC, rA, rC, mA, mC, lA, lC, iA, iC, some ⟨b, off, none⟩, uC⟩) HC.out.s
                 obtain ⟨v0, v1, v2, v3, v4, v5, v6⟩ : w7.cell? ⟨bv, 0, none⟩ = some (.int .i64 kd) ∧ w7.cell? ⟨bv, 1, none⟩ = some (.int .i64 ((i : Int) + 1)) ∧ w7.cell? ⟨bv, 2, none⟩ = some (.int .i64 vt) ∧ w7.cell? ⟨bv, 3, none⟩ = some (.int .i64 vb) ∧ w7.cell? ⟨bv, 4, none⟩ = some (.int .i64 vn) ∧ w7.cell? ⟨bv, 5, none⟩ = some (.int .i64 it) ∧ w7.cell? ⟨bv, 6, none⟩ = some (.int .i64 va) := ⟨HC.out.v.cell 0, HC.out.v.cell 1, HC.out.v.cell 2, HC.out.v.cell 3, HC.out.v.cell 4, HC.out.v.cell 5, HC.out.v.cell 6⟩
                 obtain ⟨r0, r1, r2, r3, r4, r5, r6⟩ : w7.cell? ⟨br, 0, none⟩ = some (.int .i64 kd) ∧ w7.cell? ⟨br, 1, none⟩ = some (.int .i64 it) ∧ w7.cell? ⟨br, 2, none⟩ = some (.int .i64 ot) ∧ w7.cell? ⟨br, 3, none⟩ = some (.int .i64 nn) ∧ w7.cell? ⟨br, 4, none⟩ = some (.int .i64 bY) ∧ w7.cell? ⟨br, 5, none⟩ = some (.bool al) ∧ w7.cell? ⟨br, 6, none⟩ = some (.slice A2 ms.length c2) := ⟨HC.out.r.cell 0, HC.out.r.cell 1, HC.out.r.cell 2, HC.out.r.cell 3, HC.out.r.cell 4, HC.out.r.cell 5, HC.out.r.cell 6⟩
                 have vl := HC.out.v.lt
                 have rl := HC.out.r.lt))
             first
              | (go_quiet (fail))
              | fail
             go_wp2_with (first
              | (go_at_call 25; (with_reducible refine (HTx.out _ (below_drawn HC.out.s.b _)).mono ?_); rw [HTH.out]; rintro e w8 ⟨rfl, hb⟩
                 have HBW := hide ((below_drawn HBX.out _).trans (hb.mono (below_drawn HBX.out _).size))
                 have HQ := hide (HC.out.grow ((below_drawn (Below.refl _ _) _).trans hb))
                 clear HC hb a0 a1 a2 a3 a4 a5 a6 a7 a8 a9 a10 p0 ml pl v0 v1 v2 v3 v4 v5 v6 r0 r1 r2 r3 r4 r5 r6 vl rl
                 have HC := HQ
                 clear HQ
                 obtain ⟨⟨a0, a1, a2, a3, a4, a5, a6, a7, a8, a9, a10⟩, p0, ml, pl⟩ := MPB.cells2 (h := ⟨sA, sC, fA, fC, rA, rC, mA, mC, lA, lC, iA, iC, some ⟨b, off, none⟩, uC⟩) HC.out.s
                 obtain ⟨v0, v1, v2, v3, v4, v5, v6⟩ : w8.cell? ⟨bv, 0, none⟩ = some (.int .i64 kd) ∧ w8.cell? ⟨bv, 1, none⟩ = some (.int .i64 ((i : Int) + 1)) ∧ w8.cell? ⟨bv, 2, none⟩ = some (.int .i64 vt) ∧ w8.cell? ⟨bv, 3, none⟩ = some (.int .i64 vb) ∧ w8.cell? ⟨bv, 4, none⟩ = some (.int .i64 vn) ∧ w8.cell? ⟨bv, 5, none⟩ = some (.int .i64 it) ∧ w8.cell? ⟨bv, 6, none⟩ = some (.int .i64 va) := ⟨HC.out.v.cell 0, HC.out.v.cell 1, HC.out.v.cell 2, HC.out.v.cell 3, HC.out.v.cell 4, HC.out.v.cell 5, HC.out.v.cell 6⟩
                 obtain ⟨r0, r1, r2, r3, r4, r5, r6⟩ : w8.cell? ⟨br, 0, none⟩ = some (.int .i64 kd) ∧ w8.cell? ⟨br, 1, none⟩ = some (.int .i64 it) ∧ w8.cell? ⟨br, 2, none⟩ = some (.int .i64 ot) ∧ w8.cell? ⟨br, 3, none⟩ = some (.int .i64 nn) ∧ w8.cell? ⟨br, 4, none⟩ = some (.int .i64 bY) ∧ w8.cell? ⟨br, 5, none⟩ = some (.bool al) ∧ w8.cell? ⟨br, 6, none⟩ = some (.slice A2 ms.length c2) := ⟨HC.out.r.cell 0, HC.out.r.cell 1, HC.out.r.cell 2, HC.out.r.cell 3, HC.out.r.cell 4, HC.out.r.cell 5, HC.out.r.cell 6⟩
                 have vl := HC.out.v.lt
                 have rl := HC.out.r.lt)
              | (go_at_call 26; (with_reducible refine (HIM.out _ HC.out.s.b).mono ?_); rintro e w9 ⟨rfl, rfl⟩; rw [HIN.out]))
             go_roundw
             case rel => exact ⟨j + 1, by have := HJL.out; omega, by have := HJL.out; go_num, HC.out.s, HBW.out⟩
             case measure => have := HJL.out; simp [intOf]; omega
         · obtain ⟨d, hd1, hd2, hd3⟩ := HK2.out (by simpa using g2)
           have g3 : (kd == 3) = false := by simp only [beq_iff_eq] at g2; simp [g2]
           dsimp only at hd1 hd2 hd3
           obtain ⟨sp, hsp⟩ : ∃ sp, sp = spreadP m p it bY := ⟨_, rfl⟩
           have hd2' : d < sp.length := by rw [hsp]; exact hd2
           obtain ⟨s9, hs9⟩ : ∃ s9, s9 = sp[d] := ⟨_, rfl⟩
           have hq9 : nn < s9 := by subst hs9 hsp; exact hd3
           rw [← hsp] at HSx
           have g9 : decide (s9 ≤ nn) = false := by simp; omega
           have HS9 := hide hs9
           have hdI : (d : Int) < (sp.length : Int) := by omega
           have hspl : sp.length ≤ 1000000 := (by rw [hsp, spreadP_eq, spreadL_len]; have := HDM.out bY; omega)
           have hwd : IntKind.i64.wrap (d : Int) = d := IntWalk.i64_in _ (by omega)
           have g8 : decide ((d : Int) + 1 < 1) = false := by simp; omega
           have g7 : decide ((sp.length : Int) < (d : Int) + 1) = false := by simp; omega
           subst hd1
           clear hd2 hd3 hsp hs9 hq9 HK3
           go_upto_region 25 with (first
               | (go_at_call 11; (with_reducible refine (HE.out _ HC.out.s.b).mono ?_); rintro e w6 ⟨rfl, hb⟩
                  have HBY := hide (HB5.out.trans (hb.mono HB5.out.size))
                  have HQ := hide (HC.out.grow hb)
                  clear HC hb a0 a1 a2 a3 a4 a5 a6 a7 a8 a9 a10 p0 ml pl v0 v1 v2 v3 v4 v5 v6 r0 r1 r2 r3 r4 r5 r6 vl rl
                  have HC := HQ
                  clear HQ
                  obtain ⟨⟨a0, a1, a2, a3, a4, a5, a6, a7, a8, a9, a10⟩, p0, ml, pl⟩ := MPB.cells2 (h := ⟨sA, sC, fA, fC, rA, rC, mA, mC, lA, lC, iA, iC, some ⟨b, off, none⟩, uC⟩) HC.out.s
                  obtain ⟨v0, v1, v2, v3, v4, v5, v6⟩ : w6.cell? ⟨bv, 0, none⟩ = some (.int .i64 kd) ∧ w6.cell? ⟨bv, 1, none⟩ = some (.int .i64 ((i : Int) + 1)) ∧ w6.cell? ⟨bv, 2, none⟩ = some (.int .i64 vt) ∧ w6.cell? ⟨bv, 3, none⟩ = some (.int .i64 vb) ∧ w6.cell? ⟨bv, 4, none⟩ = some (.int .i64 vn) ∧ w6.cell? ⟨bv, 5, none⟩ = some (.int .i64 it) ∧ w6.cell? ⟨bv, 6, none⟩ = some (.int .i64 ((d : Int) + 1)) := ⟨HC.out.v.cell 0, HC.out.v.cell 1, HC.out.v.cell 2, HC.out.v.cell 3, HC.out.v.cell 4, HC.out.v.cell 5, HC.out.v.cell 6⟩
                  obtain ⟨r0, r1, r2, r3, r4, r5, r6⟩ : w6.cell? ⟨br, 0, none⟩ = some (.int .i64 kd) ∧ w6.cell? ⟨br, 1, none⟩ = some (.int .i64 it) ∧ w6.cell? ⟨br, 2, none⟩ = some (.int .i64 ot) ∧ w6.cell? ⟨br, 3, none⟩ = some (.int .i64 nn) ∧ w6.cell? ⟨br, 4, none⟩ = some (.int .i64 bY) ∧ w6.cell? ⟨br, 5, none⟩ = some (.bool al) ∧ w6.cell? ⟨br, 6, none⟩ = some (.slice A2 ms.length c2) := ⟨HC.out.r.cell 0, HC.out.r.cell 1, HC.out.r.cell 2, HC.out.r.cell 3, HC.out.r.cell 4, HC.out.r.cell 5, HC.out.r.cell 6⟩
                  have vl := HC.out.v.lt
                  have rl := HC.out.r.lt)
               | (go_at_call 24; (with_reducible refine (HSx.out _ HC.out.s.b).mono ?_); rintro e w7 ⟨v7, rfl, ho, hb⟩
                  obtain ⟨A7, c7, rfl, hi7⟩ := ho.at_
                  obtain ⟨b9, o9, hA7, hb9, y9⟩ := int_at hi7 hd2'
                  rw [← HS9.out] at y9
                  subst hA7
                  have HBX := hide (HBY.out.trans (hb.mono HBY.out.size))
                  clear ho hi7
                  have HQ := hide (HC.out.grow hb)
                  clear HC hb a0 a1 a2 a3 a4 a5 a6 a7 a8 a9 a10 p0 ml pl v0 v1 v2 v3 v4 v5 v6 r0 r1 r2 r3 r4 r5 r6 vl rl
                  have HC := HQ
                  clear HQ
                  obtain ⟨⟨a0, a1, a2, a3, a4, a5, a6, a7, a8, a9, a10⟩, p0, ml, pl⟩ := MPB.cells2 (h := ⟨sA, sC, fA, fC, rA, rC, mA, mC, lA, lC, iA, iC, some ⟨b, off, none⟩, uC⟩) HC.out.s
                  obtain ⟨v0, v1, v2, v3, v4, v5, v6⟩ : w7.cell? ⟨bv, 0, none⟩ = some (.int .i64 kd) ∧ w7.cell? ⟨bv, 1, none⟩ = some (.int .i64 ((i : Int) + 1)) ∧ w7.cell? ⟨bv, 2, none⟩ = some (.int .i64 vt) ∧ w7.cell? ⟨bv, 3, none⟩ = some (.int .i64 vb) ∧ w7.cell? ⟨bv, 4, none⟩ = some (.int .i64 vn) ∧ w7.cell? ⟨bv, 5, none⟩ = some (.int .i64 it) ∧ w7.cell? ⟨bv, 6, none⟩ = some (.int .i64 ((d : Int) + 1)) := ⟨HC.out.v.cell 0, HC.out.v.cell 1, HC.out.v.cell 2, HC.out.v.cell 3, HC.out.v.cell 4, HC.out.v.cell 5, HC.out.v.cell 6⟩
                  obtain ⟨r0, r1, r2, r3, r4, r5, r6⟩ : w7.cell? ⟨br, 0, none⟩ = some (.int .i64 kd) ∧ w7.cell? ⟨br, 1, none⟩ = some (.int .i64 it) ∧ w7.cell? ⟨br, 2, none⟩ = some (.int .i64 ot) ∧ w7.cell? ⟨br, 3, none⟩ = some (.int .i64 nn) ∧ w7.cell? ⟨br, 4, none⟩ = some (.int .i64 bY) ∧ w7.cell? ⟨br, 5, none⟩ = some (.bool al) ∧ w7.cell? ⟨br, 6, none⟩ = some (.slice A2 ms.length c2) := ⟨HC.out.r.cell 0, HC.out.r.cell 1, HC.out.r.cell 2, HC.out.r.cell 3, HC.out.r.cell 4, HC.out.r.cell 5, HC.out.r.cell 6⟩
                  have vl := HC.out.v.lt
                  have rl := HC.out.r.lt))
           first
            | (go_quiet (fail))
            | fail
           go_wp2_with (first
               | (go_at_call 25; (with_reducible refine (HTx.out _ (below_drawn HC.out.s.b _)).mono ?_); rintro e w8 ⟨rfl, hb⟩
                  have HBW := hide ((below_drawn HBX.out _).trans (hb.mono (below_drawn HBX.out _).size))
                  have HQ := hide (HC.out.grow ((below_drawn (Below.refl _ _) _).trans hb))
                  clear HC hb a0 a1 a2 a3 a4 a5 a6 a7 a8 a9 a10 p0 ml pl v0 v1 v2 v3 v4 v5 v6 r0 r1 r2 r3 r4 r5 r6 vl rl
                  have HC := HQ
                  clear HQ
                  obtain ⟨⟨a0, a1, a2, a3, a4, a5, a6, a7, a8, a9, a10⟩, p0, ml, pl⟩ := MPB.cells2 (h := ⟨sA, sC, fA, fC, rA, rC, mA, mC, lA, lC, iA, iC, some ⟨b, off, none⟩, uC⟩) HC.out.s
                  obtain ⟨v0, v1, v2, v3, v4, v5, v6⟩ : w8.cell? ⟨bv, 0, none⟩ = some (.int .i64 kd) ∧ w8.cell? ⟨bv, 1, none⟩ = some (.int .i64 ((i : Int) + 1)) ∧ w8.cell? ⟨bv, 2, none⟩ = some (.int .i64 vt) ∧ w8.cell? ⟨bv, 3, none⟩ = some (.int .i64 vb) ∧ w8.cell? ⟨bv, 4, none⟩ = some (.int .i64 vn) ∧ w8.cell? ⟨bv, 5, none⟩ = some (.int .i64 it) ∧ w8.cell? ⟨bv, 6, none⟩ = some (.int .i64 ((d : Int) + 1)) := ⟨HC.out.v.cell 0, HC.out.v.cell 1, HC.out.v.cell 2, HC.out.v.cell 3, HC.out.v.cell 4, HC.out.v.cell 5, HC.out.v.cell 6⟩
                  obtain ⟨r0, r1, r2, r3, r4, r5, r6⟩ : w8.cell? ⟨br, 0, none⟩ = some (.int .i64 kd) ∧ w8.cell? ⟨br, 1, none⟩ = some (.int .i64 it) ∧ w8.cell? ⟨br, 2, none⟩ = some (.int .i64 ot) ∧ w8.cell? ⟨br, 3, none⟩ = some (.int .i64 nn) ∧ w8.cell? ⟨br, 4, none⟩ = some (.int .i64 bY) ∧ w8.cell? ⟨br, 5, none⟩ = some (.bool al) ∧ w8.cell? ⟨br, 6, none⟩ = some (.slice A2 ms.length c2) := ⟨HC.out.r.cell 0, HC.out.r.cell 1, HC.out.r.cell 2, HC.out.r.cell 3, HC.out.r.cell 4, HC.out.r.cell 5, HC.out.r.cell 6⟩
                  have vl := HC.out.v.lt
                  have rl := HC.out.r.lt))
           go_roundw
           case rel => exact ⟨j + 1, by have := HJL.out; omega, by have := HJL.out; go_num, HC.out.s, HBW.out⟩
           case measure => have := HJL.out; simp [intOf]; omega
       · obtain rfl : j = l.length := by omega
         have HE := hide (show (n : Int) = (l.length : Int) by rw [HNL.out])
         obtain ⟨nn, hnn⟩ : ∃ nn, nn = l.length := ⟨_, rfl⟩
         have hn2 : n = l.length := HNL.out
         subst hn2
         go_wp2_with fail
         go_ret
         exact ⟨rfl, hS.out.b⟩
 all_goals
  go_ret
  first | exact ⟨rfl, HS3.out.b⟩ | exact ⟨rfl, HS2.out.b⟩
end Go.Proofs.YtlnjaemdelnceaaGreatDoor
