/- A part of the claim: see its last text. -/
import Derived.Test.YtlnjaemdelnceaaGreatDoorUK30
import Derived.Test.YtlnjaemdelnceaaGreatDoorUK04
import Derived.Test.YtlnjaemdelnceaaGreatDoorUK21
import Derived.Deep.RegionHeld3
import Derived.Test.YtlnjaemdelnceaaGreatDoorUK15

set_option maxRecDepth 100000
set_option maxHeartbeats 16000000
namespace Go.Proofs.YtlnjaemdelnceaaGreatDoor
open Go Go.RowKit Go.Proofs
structure InS (w : World) (M P : Array Value) (v : Value) (l : List VioM) (W : World) : Prop where
 s : MPB w M P W
 o : OVi w.heap.size W v l
theorem InS.grow {w : World} {M P : Array Value} {v : Value} {l : List VioM} {W W2 : World} (s : InS w M P v l W) (hb : Below W.heap.size W W2) : InS w M P v l W2 := ⟨s.s.grow hb, s.o.below hb⟩
theorem InS.appended {w : World} {M P : Array Value} {v v' : Value} {l l' : List VioM} {W W2 : World} (s : InS w M P v l W) (hg : W.grownBy W2 v.ownBlock) (ho : OVi w.heap.size W2 v' l') : InS w M P v' l' W2 :=
 ⟨⟨s.s.m.grown hg (fun e => s.o.ne s.s.m (by decide) e.symm), s.s.p.grown hg (fun e => s.o.ne s.s.p (by decide) e.symm), s.s.b.grown hg s.s.b.size (fun g e => (s.o.lt g e).1)⟩, ho⟩
structure InF (w : World) (M P X : Array Value) (bx : Nat) (A : Option Addr) (c : Nat) (L : List (Int × Int)) (v : Value) (l : List VioM) (W : World) : Prop where
 s : InS w M P v l W
 x : Blk W bx 32 X
 f : OwnF w.heap.size W (.slice A L.length c) L
theorem InF.grow {w : World} {M P X : Array Value} {bx : Nat} {A : Option Addr} {c : Nat} {L : List (Int × Int)} {v : Value} {l : List VioM} {W W2 : World} (s : InF w M P X bx A c L v l W) (hb : Below W.heap.size W W2) : InF w M P X bx A c L v l W2 :=
 ⟨s.s.grow hb, s.x.below hb s.x.lt, s.f.keepB fun _ _ _ hB => hB.below hb hB.lt⟩
theorem InF.appended {w : World} {M P X : Array Value} {bx : Nat} {A : Option Addr} {c : Nat} {L : List (Int × Int)} {v v' : Value} {l l' : List VioM} {W W2 : World} (s : InF w M P X bx A c L v l W) (hg : W.grownBy W2 v.ownBlock) (ho : OVi w.heap.size W2 v' l') : InF w M P X bx A c L v' l' W2 :=
 ⟨s.s.appended hg ho, s.x.grown hg (fun e => s.s.o.ne s.x (by decide) e.symm), s.f.keepB fun _ _ _ hB => hB.grown hg (fun e => s.s.o.ne hB (by decide) e.symm)⟩
theorem InF.fr {w : World} {M P X : Array Value} {bx : Nat} {A : Option Addr} {c : Nat} {L : List (Int × Int)} {v : Value} {l : List VioM} {W : World} (s : InF w M P X bx A c L v l W) : FR W W.heap.size A L := Reads.of_own s.f
def InO (m : Mod) (p : PlaceM) (time : Int) (w : World) (M P : Array Value) (v i : Value) (W : World) : Prop := ∃ k : Nat, k ≤ m.uT.length ∧ i = .int .i64 k ∧ Hid (InS w M P v (instTo m p time k) W)
def InI (m : Mod) (p : PlaceM) (time : Int) (w : World) (M P X : Array Value) (bx : Nat) (A : Option Addr) (c : Nat) (L : List (Int × Int)) (T : List VioM) (k : Nat) (x : RuleM) (v i : Value) (W : World) : Prop :=
 ∃ q : Nat, q ≤ L.length ∧ i = .int .i64 q ∧ Hid (InF w M P X bx A c L v (T ++ instF m p time k x q) W)
theorem instant_prog (h : MH) (m : Mod) (Ap : Option Addr) (cp : Nat) (p : PlaceM) (time : Int) (w : World) (d : MD w w.heap.size h m) (F : FewM m) (hrl : m.uT.length ≤ 1000) (hml : ∀ x ∈ m.uT, x.machines.length ≤ 9223372036854775807) (hp : PR w w.heap.size Ap p) (hl : p.length ≤ 1000) (hul : ∀ i, (unitsP p i).length ≤ 1000) :
    Calls Tryz.prog 17 #[.agg #[.slice h.s m.sT.length h.sc, .slice h.f m.fT.length h.fc, .slice h.r m.rT.length h.rc, .slice h.m m.mT.length h.mc, .slice h.l m.lT.length h.lc, .slice h.i m.iT.length h.ic, .int .i64 m.dT, .int .i64 m.oT, .int .i64 m.vT, .int .i64 m.aT, .slice h.u m.uT.length h.uc], .agg #[.slice Ap p.length cp], .int .i64 time] w (fun e w' => ∃ v, e = .returned v ∧ OVi w.heap.size w' v (instantM m p time) ∧ Below w.heap.size w w') := by
 have HS := hide (show InS w #[.slice h.s m.sT.length h.sc, .slice h.f m.fT.length h.fc, .slice h.r m.rT.length h.rc, .slice h.m m.mT.length h.mc, .slice h.l m.lT.length h.lc, .slice h.i m.iT.length h.ic, .int .i64 m.dT, .int .i64 m.oT, .int .i64 m.vT, .int .i64 m.aT, .slice h.u m.uT.length h.uc] #[.slice Ap p.length cp] (.slice none 0 0) [] _ from ⟨MPB.start w #[.slice h.s m.sT.length h.sc, .slice h.f m.fT.length h.fc, .slice h.r m.rT.length h.rc, .slice h.m m.mT.length h.mc, .slice h.l m.lT.length h.lc, .slice h.i m.iT.length h.ic, .int .i64 m.dT, .int .i64 m.oT, .int .i64 m.vT, .int .i64 m.aT, .slice h.u m.uT.length h.uc] #[.slice Ap p.length cp], OVi.nil_ _ _⟩)
 have HD := hide (fun W (hW : Below w.heap.size w W) => And.intro (d.grow hW) (hp.grow hW))
 have HFA := hide (fun (x : RuleM) A2 c2 W => fails_prog h m F x A2 c2 W)
 have HDM := hide (fun (x : RuleM) => F.doms x.by_)
 have HF := hide F
 have HML := hide hml
 have HUL := hide hul
 clear d F hml hp hul
 go_enter Tryz.func17, Tryz.ntmps17
 go_wp2_with fail
 go_loopw [7, 17] (fun v i wr => InO m p time w #[.slice h.s m.sT.length h.sc, .slice h.f m.fT.length h.fc, .slice h.r m.rT.length h.rc, .slice h.m m.mT.length h.mc, .slice h.l m.lT.length h.lc, .slice h.i m.iT.length h.ic, .int .i64 m.dT, .int .i64 m.oT, .int .i64 m.vT, .int .i64 m.aT, .slice h.u m.uT.length h.uc] #[.slice Ap p.length cp] v i wr) (fun _ i _ => m.uT.length - (intOf i).toNat)
 case atStart => exact ⟨0, Nat.zero_le _, rfl, HS⟩
 case round =>
  clear HS
  obtain ⟨k, hk, rfl, hS⟩ := hrel
  by_cases hlt : k < m.uT.length
  · obtain ⟨bu, ou, A2, c2, hA, hbu, t0, t1, t2, t3, t4, t5, t6, hc2, hcm2, hI2⟩ := (HD.out w (Below.refl _ _)).1.dU.rule hlt
    have hbr := hS.out.s.b
    have u0 := (hbr.cell (p := ⟨bu, ou + k * 7, none⟩) hbu).trans t0
    have u1 := (hbr.cell (p := ⟨bu, ou + k * 7 + 1, none⟩) hbu).trans t1
    have u2 := (hbr.cell (p := ⟨bu, ou + k * 7 + 2, none⟩) hbu).trans t2
    have u3 := (hbr.cell (p := ⟨bu, ou + k * 7 + 3, none⟩) hbu).trans t3
    have u4 := (hbr.cell (p := ⟨bu, ou + k * 7 + 4, none⟩) hbu).trans t4
    have u5 := (hbr.cell (p := ⟨bu, ou + k * 7 + 5, none⟩) hbu).trans t5
    have u6 := (hbr.cell (p := ⟨bu, ou + k * 7 + 6, none⟩) hbu).trans t6
    have hbul := Nat.lt_of_lt_of_le hbu hbr.size
    clear t0 t1 t2 t3 t4 t5 t6 hbr
    have HIS := hide (instTo_succ m p time hlt)
    have hxm := HML.out _ (List.getElem_mem hlt)
    obtain ⟨x, hx⟩ : ∃ x, x = m.uT[k] := ⟨_, rfl⟩
    rw [← hx] at u0 u1 u2 u3 u4 u5 u6 HIS hI2 hxm hc2
    have HTL := hide (instTo_len HF.out p time k)
    have HFL := hide (failuresR_len HF.out x)
    obtain ⟨L, hL⟩ : ∃ L, L = failuresR m x := ⟨_, rfl⟩
    have HLE := hide hL
    obtain ⟨T, hT⟩ : ∃ T, T = instTo m p time k := ⟨_, rfl⟩
    have HTE := hide hT
    rw [← hT] at hS HTL HIS
    rw [← hL] at HFL HIS
    have hkI : (k : Int) < (m.uT.length : Int) := by omega
    have HBX := hide ((Below.refl wr.heap.size wr).alloc (Nat.le_refl _) (.cells #[.int .i64 x.kind, .int .i64 x.item, .int .i64 x.other, .int .i64 x.n, .int .i64 x.by_, .bool x.always, .slice A2 x.machines.length c2] 32))
    have HX0 := hide (Blk.new wr 32 #[.int .i64 x.kind, .int .i64 x.item, .int .i64 x.other, .int .i64 x.n, .int .i64 x.by_, .bool x.always, .slice A2 x.machines.length c2])
    have HSX := hide (hS.out.grow HBX.out)
    have HCI := hide (fun W (hW : Below w.heap.size w W) => hI2.grow hW)
    obtain ⟨a0, a1, a2, a3, a4, a5, a6, a7, a8, a9, a10⟩ := MB.cells HSX.out.s.m
    have ml := HSX.out.s.m.lt
    have HFX := hide (HFA.out x A2 c2 (wr.alloc (.cells #[.int .i64 x.kind, .int .i64 x.item, .int .i64 x.other, .int .i64 x.n, .int .i64 x.by_, .bool x.always, .slice A2 x.machines.length c2] 32)))
    rw [← hL] at HFX
    have HWA := hide (fun W (hW : Below w.heap.size w W) (hu : (unitsP p x.item).length ≤ 1000) (f : Int × Int) => where_any h m x A2 c2 Ap cp p f W ⟨(HD.out W hW).1, HCI.out W hW, hxm, (HD.out W hW).2, hl, hu, HDM.out x⟩)
    rw [hA]
    have HA := hide hA
    obtain ⟨wo, rfl⟩ : ∃ wo : World, wo = wr := ⟨_, rfl⟩
    clear hx hL hT hI2 hA hS
    go_wp2_with (go_at_call 14; (with_reducible refine HFX.out.mono ?_); rintro e w2 ⟨v2, rfl, ho2, hb2⟩
                 obtain ⟨A3, c3, rfl, hfr, hlf⟩ := ho2.form
                 have HIF := hide (show InF w #[.slice h.s m.sT.length h.sc, .slice h.f m.fT.length h.fc, .slice h.r m.rT.length h.rc, .slice h.m m.mT.length h.mc, .slice h.l m.lT.length h.lc, .slice h.i m.iT.length h.ic, .int .i64 m.dT, .int .i64 m.oT, .int .i64 m.vT, .int .i64 m.aT, .slice h.u m.uT.length h.uc] #[.slice Ap p.length cp] #[.int .i64 x.kind, .int .i64 x.item, .int .i64 x.other, .int .i64 x.n, .int .i64 x.by_, .bool x.always, .slice A2 x.machines.length c2] wo.heap.size A3 c3 L u7 (T ++ instF m p time k x 0) w2 from ⟨by rw [instF_zero, List.append_nil]; exact HSX.out.grow hb2, HX0.out.below hb2 HX0.out.lt, own_lowerF ho2 HSX.out.s.b.size⟩)
                 have HB2 := hide (HBX.out.trans (hb2.mono HBX.out.size))
                 clear ho2 hb2 hfr hlf)
    have HKK := hide (And.intro hlt hkI)
    clear u0 u1 u2 u3 u4 u5 u6 hbul a0 a1 a2 a3 a4 a5 a6 a7 a8 a9 a10 ml hbu
    have hwk : IntKind.i64.wrap ((k : Int) + 1) = (k : Int) + 1 := by rw [IntKind.wrap_i64]; omega
    have hLl : L.length ≤ 401 := HFL.out
    obtain ⟨wi, hwi⟩ : ∃ wi, wi = whereI m x p := ⟨_, rfl⟩
    rw [← hwi] at HWA
    have HWI := hide hwi
    clear hwi
    go_loopw [7, 26] (fun v i wr => InI m p time w #[.slice h.s m.sT.length h.sc, .slice h.f m.fT.length h.fc, .slice h.r m.rT.length h.rc, .slice h.m m.mT.length h.mc, .slice h.l m.lT.length h.lc, .slice h.i m.iT.length h.ic, .int .i64 m.dT, .int .i64 m.oT, .int .i64 m.vT, .int .i64 m.aT, .slice h.u m.uT.length h.uc] #[.slice Ap p.length cp] #[.int .i64 x.kind, .int .i64 x.item, .int .i64 x.other, .int .i64 x.n, .int .i64 x.by_, .bool x.always, .slice A2 x.machines.length c2] wo.heap.size A3 c3 L T k x v i wr) (fun _ i _ => L.length - (intOf i).toNat)
    case atStart => exact ⟨0, Nat.zero_le _, rfl, HIF⟩
    case round =>
     clear HIF
     obtain ⟨q, hq, rfl, hF⟩ := hrel
     by_cases hlq : q < L.length
     · obtain ⟨bf, of_, hAf, hbf, f0, f1⟩ := hF.out.fr.at_ hlq
       subst hAf
       obtain ⟨⟨fa, fb⟩, hf⟩ : ∃ f, f = L[q] := ⟨_, rfl⟩
       rw [← hf] at f0 f1
       dsimp only at f0 f1
       have HV := hide (show instF m p time k x (q + 1) = instF m p time k x q ++ vioOf m p time k x (fa, fb) by
        have e := HLE.out
        subst e
        rw [instF_succ m p time k x hlq, hf])
       have HFX := hide (hF.out.grow ((Below.refl wr.heap.size wr).alloc (Nat.le_refl _) (.cells #[.int .i64 fa, .int .i64 fb] 37)))
       obtain ⟨a0, a1, a2, a3, a4, a5, a6, a7, a8, a9, a10⟩ := MB.cells HFX.out.s.s.m
       have b0 := HFX.out.x.cell 0
       have b1 := HFX.out.x.cell 1
       have b2 := HFX.out.x.cell 2
       have b3 := HFX.out.x.cell 3
       have b4 := HFX.out.x.cell 4
       have b5 := HFX.out.x.cell 5
       have b6 := HFX.out.x.cell 6
       have p0 := HFX.out.s.s.p.cell 0
       simp at b0 b1 b2 b3 b4 b5 b6 p0
       have ml := HFX.out.s.s.m.lt
       have xl := HFX.out.x.lt
       have pl := HFX.out.s.s.p.lt
       have hqI : (q : Int) < (L.length : Int) := by omega
       have HLQ := hide hlq
       have HN0 := hide (Blk.new wr 37 #[.int .i64 fa, .int .i64 fb])
       have HWX := HWA.out _ HFX.out.s.s.b (HUL.out x.item) (fa, fb)
       dsimp only at HWX
       have HLN := hide (show (T ++ instF m p time k x q).length + 1 ≤ 1000000 by
        have h1 := HTL.out
        have h2 := instF_len m p time k x q
        have h3 := HFL.out
        rw [List.length_append]
        have : k * 401 ≤ 1000 * 401 := Nat.mul_le_mul_right _ (by omega)
        omega)
       clear hf hF hlq
       cases hh : holdsR m x p (fa, fb)
       · rw [hh] at HWX
         have HWX := hide HWX
         have HVO := hide (show vioOf m p time k x (fa, fb) = [⟨x.kind, (k : Int) + 1, time, fa, fb, x.item, wi⟩] by unfold vioOf; rw [hh, HWI.out]; rfl)
         clear hh
         go_wp2_with (first
          | (go_at_call 33; (with_reducible refine HWX.out.mono ?_); rintro e w5 ⟨rfl, hb5⟩
             have hF5 := HFX.out.grow hb5
             have d0 := hF5.x.cell 0
             have d1 := hF5.x.cell 1
             have xl5 := hF5.x.lt
             have hN5 := HN0.out.below hb5 HN0.out.lt
             have n0 := hN5.cell 0
             have n1 := hN5.cell 1
             have nl := hN5.lt
             simp at d0 d1 n0 n1
             have HF5 := hide (hF5.grow ((Below.refl w5.heap.size w5).alloc (Nat.le_refl _) (.cells #[.int .i64 x.kind, .int .i64 ((k : Int) + 1), .int .i64 time, .int .i64 fa, .int .i64 fb, .int .i64 x.item, .int .i64 wi] 54)))
             have HRV := hide (newVio w5 ⟨x.kind, (k : Int) + 1, time, fa, fb, x.item, wi⟩)
             clear hb5 hF5 hN5 a0 a1 a2 a3 a4 a5 a6 a7 a8 a9 a10 b0 b1 b2 b3 b4 b5 b6 p0 ml xl pl)
          | (at_builtin; refine append_vi rfl _ _ rfl w.heap.size _ (T ++ instF m p time k x q) rfl HF5.out.s.o (w5.heap.size + 1) (some ⟨w5.heap.size, 0, none⟩) _ ⟨x.kind, (k : Int) + 1, time, fa, fb, x.item, wi⟩ rfl HRV.out HLN.out HF5.out.s.s.b.size ?_; intro v6 w6 ho6 hg6 _
             have HF6 := hide (HF5.out.appended hg6 ho6)
             clear ho6 hg6))
         go_roundw
         case rel => exact ⟨q + 1, by have := HLQ.out; omega, by go_num, hide (by rw [HV.out, HVO.out, ← List.append_assoc]; exact HF6.out)⟩
         case measure => have := HLQ.out; simp [intOf]; omega
       · rw [hh] at HWX
         have HWX := hide HWX
         have HVO := hide (show vioOf m p time k x (fa, fb) = [] by unfold vioOf; rw [hh]; rfl)
         clear hh
         go_wp2_with (go_at_call 33; (with_reducible refine HWX.out.mono ?_); rintro e w5 ⟨rfl, hb5⟩; have HF5 := hide (HFX.out.grow hb5); clear hb5)
         go_roundw
         case rel => exact ⟨q + 1, by have := HLQ.out; omega, by go_num, hide (by rw [HV.out, HVO.out, List.append_nil]; exact HF5.out)⟩
         case measure => have := HLQ.out; simp [intOf]; omega
     · obtain rfl : q = L.length := by omega
       have HSS := hide hF.out.s
       clear hF
       go_wp2_with fail
       go_roundw
       case rel => exact ⟨k + 1, by have := HKK.out.1; omega, by go_num, hide (by rw [HIS.out]; have h7 := HSS.out; rw [HA.out] at h7; exact h7)⟩
       case measure => have := HKK.out.1; simp [intOf]; omega
  · obtain rfl : k = m.uT.length := by omega
    go_wp2_with fail
    go_ret
    exact ⟨_, rfl, hS.out.o, hS.out.s.b⟩
structure FewL (m : Mod) : Prop where
 ls : m.sT.length ≤ 24
 lf : m.fT.length ≤ 24
 lr : m.rT.length ≤ 24
 lm : m.mT.length ≤ 24
 li : m.iT.length ≤ 24
 lu : m.uT.length ≤ 48
def FewB (m : Mod) (w : World) (e : Ending) (w' : World) : Prop := (∃ b : Bool, e = .returned (.bool b) ∧ (b = true → FewL m)) ∧ Below w.heap.size w w'
theorem few22_ref (h : MH) (m : Mod) (w : World) (d : MD w w.heap.size h m) :
    Calls Tryz.prog 32 #[.agg #[.slice h.s m.sT.length h.sc, .slice h.f m.fT.length h.fc, .slice h.r m.rT.length h.rc, .slice h.m m.mT.length h.mc, .slice h.l m.lT.length h.lc, .slice h.i m.iT.length h.ic, .int .i64 m.dT, .int .i64 m.oT, .int .i64 m.vT, .int .i64 m.aT, .slice h.u m.uT.length h.uc]] w (FewB m w) := by
 have l0 := d.sl
 have l1 := d.fl
 have l2 := d.rl
 have l3 := d.ml
 have l5 := d.il
 have l6 := d.ul
 have D := hide d; clear d
 by_cases hbad : 24 < m.sT.length ∨ 24 < m.fT.length ∨ 24 < m.rT.length ∨ 24 < m.mT.length ∨ 24 < m.lT.length ∨ 24 < m.iT.length ∨ 48 < m.uT.length
 · clear l0 l1 l2 l3 l5 l6 D
   rcases hbad with q | q | q | q | q | q | q
   all_goals
    go_enter Tryz.func32, Tryz.ntmps32
    go_wp2_with fail
    all_goals
     go_ret
     exact ⟨⟨false, rfl, fun e => absurd e (by simp)⟩, (Below.refl _ _).alloc (Nat.le_refl _) _⟩
 · obtain ⟨q0, q1, q2, q3, q4, q5, q6⟩ : ¬ 24 < m.sT.length ∧ ¬ 24 < m.fT.length ∧ ¬ 24 < m.rT.length ∧ ¬ 24 < m.mT.length ∧ ¬ 24 < m.lT.length ∧ ¬ 24 < m.iT.length ∧ ¬ 48 < m.uT.length := by omega
   have HQ := hide (show FewL m from ⟨by omega, by omega, by omega, by omega, by omega, by omega⟩)
   clear hbad
   go_enter Tryz.func32, Tryz.ntmps32
   go_wp2_with fail
   clear q0 q1 q2 q3 q4 q5 q6
   go_loopw [3, 4] (fun v i wr => ∃ (k : Nat) (n : Int), k ≤ m.sT.length ∧ i = .int .i64 k ∧ v = .int .i64 n ∧ Hid (MW w w.heap.size wr h m)) (fun _ i _ => m.sT.length - (intOf i).toNat)
   case atStart => exact ⟨0, _, Nat.zero_le _, rfl, rfl, MW.start w h m⟩
   case round =>
    obtain ⟨k, n, hk, rfl, rfl, hW⟩ := hrel
    obtain ⟨a0, a1, a2, a3, a4, a5, a6, a7, a8, a9, a10⟩ := MB.cells hW.out.blk
    have hL1 := hW.out.lt
    clear a1 a2 a3 a4 a5 a6 a7 a8 a9 a10
    by_cases hlt : k < m.sT.length
    · obtain ⟨b, off, hA, hb, x0⟩ := str_at (hW.out.md D.out).dS hlt
      rw [hA] at a0
      clear hA
      have hsz : m.sT[k].size ≤ 9223372036854775807 := D.out.sf _ (List.getElem_mem _)
      go_wp2_with fail
      all_goals
       go_roundw
       case rel => exact ⟨k + 1, _, by omega, by go_num, rfl, hW⟩
       case measure => simp [intOf]; omega
    · go_wp2_with fail
      go_loopw [3, 5] (fun v i wr => ∃ (k : Nat) (n : Int), k ≤ m.fT.length ∧ i = .int .i64 k ∧ v = .int .i64 n ∧ Hid (MW w w.heap.size wr h m)) (fun _ i _ => m.fT.length - (intOf i).toNat)
      case atStart => exact ⟨0, _, Nat.zero_le _, rfl, rfl, hW⟩
      case round =>
       clear hW hL1 a0
       obtain ⟨k, n, hk, rfl, rfl, hW⟩ := hrel
       obtain ⟨a0, a1, a2, a3, a4, a5, a6, a7, a8, a9, a10⟩ := MB.cells hW.out.blk
       have hL1 := hW.out.lt
       clear a0 a2 a3 a4 a5 a6 a7 a8 a9 a10
       by_cases hlt : k < m.fT.length
       · obtain ⟨b, off, hA, hb, x0⟩ := str_at (hW.out.md D.out).dF hlt
         rw [hA] at a1
         clear hA
         have hsz : m.fT[k].size ≤ 9223372036854775807 := D.out.ff _ (List.getElem_mem _)
         go_wp2_with fail
         all_goals
          go_roundw
          case rel => exact ⟨k + 1, _, by omega, by go_num, rfl, hW⟩
          case measure => simp [intOf]; omega
       · go_wp2_with fail
         go_loopw [3, 6] (fun v i wr => ∃ (k : Nat) (n : Int), k ≤ m.rT.length ∧ i = .int .i64 k ∧ v = .int .i64 n ∧ Hid (MW w w.heap.size wr h m)) (fun _ i _ => m.rT.length - (intOf i).toNat)
         case atStart => exact ⟨0, _, Nat.zero_le _, rfl, rfl, hW⟩
         case round =>
          clear hW hL1 a1
          obtain ⟨k, n, hk, rfl, rfl, hW⟩ := hrel
          obtain ⟨a0, a1, a2, a3, a4, a5, a6, a7, a8, a9, a10⟩ := MB.cells hW.out.blk
          have hL1 := hW.out.lt
          clear a0 a1 a3 a4 a5 a6 a7 a8 a9 a10
          by_cases hlt : k < m.rT.length
          · obtain ⟨b, off, hA, hb, x0, x1, x2, hsz⟩ := (hW.out.md D.out).dR.rack hlt
            rw [hA] at a2
            clear hA
            go_wp2_with fail
            all_goals
             go_roundw
             case rel => exact ⟨k + 1, _, by omega, by go_num, rfl, hW⟩
             case measure => simp [intOf]; omega
          · go_wp2_with fail
            go_loopw [3, 7] (fun v i wr => ∃ (k : Nat) (n : Int), k ≤ m.mT.length ∧ i = .int .i64 k ∧ v = .int .i64 n ∧ Hid (MW w w.heap.size wr h m)) (fun _ i _ => m.mT.length - (intOf i).toNat)
            case atStart => exact ⟨0, _, Nat.zero_le _, rfl, rfl, hW⟩
            case round =>
             clear hW hL1 a2
             obtain ⟨k, n, hk, rfl, rfl, hW⟩ := hrel
             obtain ⟨a0, a1, a2, a3, a4, a5, a6, a7, a8, a9, a10⟩ := MB.cells hW.out.blk
             have hL1 := hW.out.lt
             clear a0 a1 a2 a4 a5 a6 a7 a8 a9 a10
             by_cases hlt : k < m.mT.length
             · obtain ⟨b, off, hA, hb, x0, x1, x2, hsz⟩ := (hW.out.md D.out).dM.mach hlt
               rw [hA] at a3
               clear hA
               go_wp2_with fail
               all_goals
                go_roundw
                case rel => exact ⟨k + 1, _, by omega, by go_num, rfl, hW⟩
                case measure => simp [intOf]; omega
             · go_wp2_with fail
               go_loopw [3, 8] (fun v i wr => ∃ (k : Nat) (n : Int), k ≤ m.iT.length ∧ i = .int .i64 k ∧ v = .int .i64 n ∧ Hid (MW w w.heap.size wr h m)) (fun _ i _ => m.iT.length - (intOf i).toNat)
               case atStart => exact ⟨0, _, Nat.zero_le _, rfl, rfl, hW⟩
               case round =>
                clear hW hL1 a3
                obtain ⟨k, n, hk, rfl, rfl, hW⟩ := hrel
                obtain ⟨a0, a1, a2, a3, a4, a5, a6, a7, a8, a9, a10⟩ := MB.cells hW.out.blk
                have hL1 := hW.out.lt
                clear a0 a1 a2 a3 a4 a6 a7 a8 a9 a10
                by_cases hlt : k < m.iT.length
                · obtain ⟨b, off, A2, c2, hA, hb, x0, x1, x2, x3, x4, x5, x6, hsz, _⟩ := (hW.out.md D.out).dI.item hlt
                  rw [hA] at a5
                  clear hA
                  have hltI : (k : Int) < (m.iT.length : Int) := by omega
                  go_wp2_with fail
                  go_quiet (fail)
                  go_wp2_with fail
                  all_goals
                   go_roundw
                   case rel => exact ⟨k + 1, _, by omega, by go_num, rfl, hide (hW.out.drewN _)⟩
                   case measure => simp [intOf]; omega
                · go_wp2_with fail
                  go_loopw [3, 9] (fun v i wr => ∃ (k : Nat) (n : Int), k ≤ m.uT.length ∧ i = .int .i64 k ∧ v = .int .i64 n ∧ Hid (MW w w.heap.size wr h m)) (fun _ i _ => m.uT.length - (intOf i).toNat)
                  case atStart => exact ⟨0, _, Nat.zero_le _, rfl, rfl, hW⟩
                  case round =>
                   clear hW hL1 a5
                   obtain ⟨k, n, hk, rfl, rfl, hW⟩ := hrel
                   obtain ⟨a0, a1, a2, a3, a4, a5, a6, a7, a8, a9, a10⟩ := MB.cells hW.out.blk
                   have hL1 := hW.out.lt
                   clear a0 a1 a2 a3 a4 a5 a6 a7 a8 a9
                   by_cases hlt : k < m.uT.length
                   · obtain ⟨b, off, A2, c2, hA, hb, x0, x1, x2, x3, x4, x5, x6, _⟩ := (hW.out.md D.out).dU.rule hlt
                     rw [hA] at a10
                     clear hA
                     go_wp2_with fail
                     all_goals
                      go_roundw
                      case rel => exact ⟨k + 1, _, by omega, by go_num, rfl, hW⟩
                      case measure => simp [intOf]; omega
                   · go_wp2_with fail
                     go_ret
                     exact ⟨⟨_, rfl, fun _ => HQ.out⟩, hW.out.b⟩
theorem same21_ref (A A2 : Option Addr) (c c2 : Nat) (l : List (Int × Int)) (w : World) (h1 : FR w w.heap.size A l) (h2 : FR w w.heap.size A2 l) (hl : l.length ≤ 9223372036854775807) :
    Calls Tryz.prog 13 #[.slice A l.length c, .slice A2 l.length c2] w (AnsR w (.bool true)) := by
 have HF := hide (And.intro h1 h2)
 clear h1 h2
 go_enter Tryz.func13, Tryz.ntmps13
 go_wp2_with fail
 go_loopw [5] (fun i wr => ∃ k : Nat, k ≤ l.length ∧ i = .int .i64 k ∧ Below w.heap.size w wr) (fun i _ => l.length - (intOf i).toNat)
 case atStart => exact ⟨0, Nat.zero_le _, rfl, Below.refl _ _⟩
 case round =>
  obtain ⟨k, hk, rfl, hbr⟩ := hrel
  have HBR := hide hbr
  by_cases hlt : k < l.length
  · obtain ⟨b, off, hA, hb, x0, x1⟩ := (HF.out.1.grow hbr).at_ hlt
    obtain ⟨b', off', hA', hb', y0, y1⟩ := (HF.out.2.grow hbr).at_ hlt
    subst hA hA'
    obtain ⟨⟨b1, b2⟩, hx⟩ : ∃ x, l[k] = x := ⟨_, rfl⟩
    rw [hx] at x0 x1 y0 y1
    dsimp only at x0 x1 y0 y1
    clear hx hbr
    have hlI : (k : Int) < (l.length : Int) := by omega
    go_wp2_with fail
    go_region_held3 (fun W => W.cell? ⟨b, off + k * 2, none⟩ = some (.int .i64 b1) ∧ W.cell? ⟨b, off + k * 2 + 1, none⟩ = some (.int .i64 b2) ∧ W.cell? ⟨b', off' + k * 2, none⟩ = some (.int .i64 b1) ∧ W.cell? ⟨b', off' + k * 2 + 1, none⟩ = some (.int .i64 b2) ∧ Below w.heap.size w W)
     ((first | (go_keep; done) | exact ⟨x0, x1, y0, y1, HBR.out.drew⟩)) ((fail))
    go_wp2_with fail
    go_roundw
    case rel => exact ⟨k + 1, by omega, by go_num, HBR.out.drew⟩
    case measure => simp [intOf]; omega
  · obtain rfl : k = l.length := by omega
    go_wp2_with fail
    go_ret
    exact ⟨rfl, HBR.out⟩
theorem RdVi.at_ {w : World} {A : Option Addr} {l : List VioM} (h : RdVi w A l) {k : Nat} (hk : k < l.length) {x : VioM} (hx : l[k] = x) : ∃ b off, A = some ⟨b, off, none⟩ ∧ b < w.heap.size ∧ w.cell? ⟨b, off + k * 7, none⟩ = some (.int .i64 x.kind) ∧ w.cell? ⟨b, off + k * 7 + 1, none⟩ = some (.int .i64 x.rule) ∧ w.cell? ⟨b, off + k * 7 + 2, none⟩ = some (.int .i64 x.time) ∧
    w.cell? ⟨b, off + k * 7 + 3, none⟩ = some (.int .i64 x.by_) ∧ w.cell? ⟨b, off + k * 7 + 4, none⟩ = some (.int .i64 x.num) ∧ w.cell? ⟨b, off + k * 7 + 5, none⟩ = some (.int .i64 x.item) ∧ w.cell? ⟨b, off + k * 7 + 6, none⟩ = some (.int .i64 x.at_) := by
 obtain ⟨b, off, e, hb, hc⟩ := h k hk
 rw [hx] at hc
 exact ⟨b, off, e, hb, hc 0 _ rfl, hc 1 _ rfl, hc 2 _ rfl, hc 3 _ rfl, hc 4 _ rfl, hc 5 _ rfl, hc 6 _ rfl⟩
theorem sameVi_ref (A A2 : Option Addr) (c c2 : Nat) (l : List VioM) (w : World) (h1 : RdVi w A l) (h2 : RdVi w A2 l) (hl : l.length ≤ 9223372036854775807) :
    Calls Tryz.prog 16 #[.slice A l.length c, .slice A2 l.length c2] w (AnsR w (.bool true)) := by
 have HF := hide (And.intro h1 h2)
 clear h1 h2
 go_enter Tryz.func16, Tryz.ntmps16
 go_wp2_with fail
 go_loopw [5] (fun i wr => ∃ k : Nat, k ≤ l.length ∧ i = .int .i64 k ∧ Below w.heap.size w wr) (fun i _ => l.length - (intOf i).toNat)
 case atStart => exact ⟨0, Nat.zero_le _, rfl, Below.refl _ _⟩
 case round =>
  obtain ⟨k, hk, rfl, hbr⟩ := hrel
  have HBR := hide hbr
  by_cases hlt : k < l.length
  · obtain ⟨⟨b1, b2, b3, b4, b5, b6, b7⟩, hx⟩ : ∃ x, l[k] = x := ⟨_, rfl⟩
    obtain ⟨b, off, hA, hb, x0, x1, x2, x3, x4, x5, x6⟩ := (HF.out.1.grow hbr).at_ hlt hx
    obtain ⟨b', off', hA', hb', y0, y1, y2, y3, y4, y5, y6⟩ := (HF.out.2.grow hbr).at_ hlt hx
    subst hA hA'
    dsimp only at x0 x1 x2 x3 x4 x5 x6 y0 y1 y2 y3 y4 y5 y6
    clear hx hbr
    have hlI : (k : Int) < (l.length : Int) := by omega
    go_wp2_with fail
    go_region_held3 (fun W => W.cell? ⟨b, off + k * 7, none⟩ = some (.int .i64 b1) ∧ W.cell? ⟨b, off + k * 7 + 1, none⟩ = some (.int .i64 b2) ∧ W.cell? ⟨b, off + k * 7 + 2, none⟩ = some (.int .i64 b3) ∧ W.cell? ⟨b, off + k * 7 + 3, none⟩ = some (.int .i64 b4) ∧ W.cell? ⟨b, off + k * 7 + 4, none⟩ = some (.int .i64 b5) ∧ W.cell? ⟨b, off + k * 7 + 5, none⟩ = some (.int .i64 b6) ∧ W.cell? ⟨b, off + k * 7 + 6, none⟩ = some (.int .i64 b7) ∧
        W.cell? ⟨b', off' + k * 7, none⟩ = some (.int .i64 b1) ∧ W.cell? ⟨b', off' + k * 7 + 1, none⟩ = some (.int .i64 b2) ∧ W.cell? ⟨b', off' + k * 7 + 2, none⟩ = some (.int .i64 b3) ∧ W.cell? ⟨b', off' + k * 7 + 3, none⟩ = some (.int .i64 b4) ∧ W.cell? ⟨b', off' + k * 7 + 4, none⟩ = some (.int .i64 b5) ∧ W.cell? ⟨b', off' + k * 7 + 5, none⟩ = some (.int .i64 b6) ∧ W.cell? ⟨b', off' + k * 7 + 6, none⟩ = some (.int .i64 b7) ∧ Below w.heap.size w W)
     ((first | (go_keep; done) | exact ⟨x0, x1, x2, x3, x4, x5, x6, y0, y1, y2, y3, y4, y5, y6, HBR.out.drew⟩)) ((fail))
    go_wp2_with fail
    go_roundw
    case rel => exact ⟨k + 1, by omega, by go_num, HBR.out.drew⟩
    case measure => simp [intOf]; omega
  · obtain rfl : k = l.length := by omega
    go_wp2_with fail
    go_ret
    exact ⟨rfl, HBR.out⟩
def Few20 (p : PlaceM) (w : World) (e : Ending) (w' : World) : Prop := ∃ b : Bool, e = .returned (.bool b) ∧ Below w.heap.size w w' ∧ (b = true → p.length ≤ 24 ∧ ∀ l ∈ p, l.length ≤ 24)
theorem few20_ref (A : Option Addr) (c : Nat) (p : PlaceM) (w : World) (h : PR w w.heap.size A p) (hl : p.length ≤ 9223372036854775807) :
    Calls Tryz.prog 31 #[.agg #[.slice A p.length c]] w (Few20 p w) := by
 have HM := hide (Blk.new w 35 #[.slice A p.length c])
 have HB := hide ((Below.refl w.heap.size w).alloc (Nat.le_refl _) (.cells #[.slice A p.length c] 35))
 have HP := hide (h.grow HB.out)
 have hB2 : ∀ b : Bool, b = false ∨ b = true := fun b => by cases b <;> simp
 have ml := HM.out.lt
 clear h
 go_enter Tryz.func31, Tryz.ntmps31
 go_wp2_with fail
 go_loop [3] (fun i => ∃ k : Nat, k ≤ p.length ∧ i = .int .i64 k ∧ Hid (∀ j (hj : j < p.length), j < k → p[j].length ≤ 24)) (fun i => p.length - (intOf i).toNat)
 case atStart => exact ⟨0, Nat.zero_le _, rfl, fun j hj h0 => absurd h0 (by omega)⟩
 case round =>
  obtain ⟨k, hk, rfl, hs⟩ := hrel
  by_cases hlt : k < p.length
  · obtain ⟨b, off, A2, c2, hA, hb, x0, _, _, _⟩ := HP.out k hlt
    obtain ⟨n, hn⟩ : ∃ n, n = p[k].length := ⟨_, rfl⟩
    rw [← hn] at x0
    have HN := hide hn
    have hkI : (k : Int) < (p.length : Int) := by omega
    subst hA
    clear hn
    rcases hB2 (decide ((24 : Int) < (n : Int))) with g | g
    · go_wp2_with fail
      go_round
      case rel => exact ⟨k + 1, by omega, by go_num, fun j hj h1 => by
       rcases Nat.lt_or_ge j k with h2 | h2
       · exact hs.out j hj h2
       · obtain rfl : j = k := by omega
         rw [← HN.out]; simp only [decide_eq_false_iff_not] at g; omega⟩
      case measure => simp [intOf]; omega
    · go_wp2_with fail
      go_ret
      exact ⟨false, rfl, HB.out, fun e => absurd e (by simp)⟩
  · obtain rfl : k = p.length := by omega
    rcases hB2 (decide ((p.length : Int) ≤ 24)) with g | g
    · go_wp2_with fail
      go_ret
      exact ⟨false, rfl, HB.out, fun e => absurd e (by simp)⟩
    · have HG := hide (show p.length ≤ 24 by have := of_decide_eq_true g; omega)
      go_wp2_with fail
      go_ret
      exact ⟨true, rfl, HB.out, fun _ => ⟨HG.out, fun l hl => by obtain ⟨j, hj, rfl⟩ := List.getElem_of_mem hl; exact hs.out j hj hj⟩⟩
structure WithS (p : PlaceM) (A0 : Option Addr) (c0 : Nat) (w wr : World) (k : Nat) (A : Option Addr) (c : Nat) (q : PlaceM) : Prop where
 b : Below w.heap.size w wr
 bp : Blk wr w.heap.size 35 #[.slice A0 p.length c0]
 br : Blk wr (w.heap.size + 1) 35 #[.slice none 0 0]
 bx : Blk wr (w.heap.size + 1 + 1) 35 #[.slice A k c]
 op : OP (w.heap.size + 3) wr (.slice A k c) (q.take k)
theorem WithS.next {p q : PlaceM} {A0 A A4 : Option Addr} {c0 c c4 k : Nat} {w wr w1 w3 : World} (s : WithS p A0 c0 w wr k A c q) (h1 : Below wr.heap.size wr w1) (hg : w1.grownBy w3 (Value.slice A k c).ownBlock) (h3 : OP (w.heap.size + 3) w3 (.slice A4 (k + 1) c4) (q.take (k + 1))) :
    WithS p A0 c0 w (w3.setCell ⟨w.heap.size + 1 + 1, 0, none⟩ (.slice A4 (k + 1) c4)) (k + 1) A4 c4 q := by
 have hne : ∀ g, g < w.heap.size + 3 → some g ≠ (Value.slice A k c).ownBlock := fun g hgl e => by have := (s.op.lt _ e.symm).1; omega
 have b3 : ∀ {g : Nat} {T : TypeId} {cs : Array Value}, Blk wr g T cs → g < w.heap.size + 3 → Blk w3 g T cs := fun hb hgl => (hb.below h1 hb.lt).grown hg (hne _ hgl)
 have hx3 := b3 s.bx (by omega)
 refine ⟨?_, (b3 s.bp (by omega)).far (by simp <;> omega) _, (b3 s.br (by omega)).far (by simp <;> omega) _, ?_, ?_⟩
 · refine (Below.grown (s.b.trans (h1.mono s.b.size)) hg (Nat.le_trans s.b.size h1.size) fun g e => ?_).setCell (by simp <;> omega) _
   have := (s.op.lt _ e).1
   omega
 · simpa using hx3.set_ 0 (.slice A4 (k + 1) c4)
 · exact h3.keep (KT.set_ hx3 (by decide) 0 _) (KT.set_ hx3 (by decide) 0 _)
end Go.Proofs.YtlnjaemdelnceaaGreatDoor
