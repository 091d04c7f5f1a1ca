/- A part of the claim: see its last text. -/
import Derived.Test.YtmjcgcnpeoemdaaGreatDoorUK30
import Derived.Test.YtmjcgcnpeoemdaaGreatDoorUK31
import Derived.Test.YtmjcgcnpeoemdaaGreatDoorUK49
import Derived.Test.YtmjcgcnpeoemdaaGreatDoorUK34
import Derived.Test.YtmjcgcnpeoemdaaGreatDoorUK36
import Derived.Test.YtmjcgcnpeoemdaaGreatDoorUK35

set_option maxRecDepth 100000
set_option maxHeartbeats 16000000
namespace Go.Proofs.YtmjcgcnpeoemdaaGreatDoor
open Go Go.RowKit Go.Proofs
def KpI (m : Mod) (a : Nat) (n : Int) (l : List EvM) (w6 : World) (v kv iv : Value) (wr : World) : Prop := ∃ e : Nat, e ≤ l.length ∧ iv = .int .i64 e ∧ (∃ q : Nat, (placesM m (l.take e)).length = q + 1 ∧ kv = .int .i64 q) ∧ Hid (OwnI w6.heap.size wr v (keepTo m a n l e)) ∧ Below w6.heap.size w6 wr
theorem censusKeeps_walk (h : MH) (m : Mod) (l : List EvM) (A : Option Addr) (c : Nat) (it nn : Int) (w : World) (d : MD w w.heap.size h m) (k1 : m.rT.length ≤ h.rc) (k2 : m.mT.length ≤ h.mc) (k3 : m.lT.length ≤ h.lc)
    (hE : Rows encEv 22 w w.heap.size A l) (hl : l.length ≤ 9223372036854775807) (hi : 0 ≤ it ∧ it ≤ 255) (hn : 0 ≤ nn ∧ nn ≤ 255) (ha : Asc w) (hpw : Pow w) :
    Calls Tryz.prog 4 #[.agg #[.slice h.s m.sT.length h.sc, .slice h.f m.fT.length h.fc, .slice h.r m.rT.length h.rc, .slice h.m m.mT.length h.mc, .slice h.l m.lT.length h.lc, .slice h.i m.iT.length h.ic, .int .i64 m.dT, .int .i64 m.oT, .int .i64 m.vT, .int .i64 m.aT, .slice h.u m.uT.length h.uc], .slice A l.length c, .int .u8 it, .int .u8 nn] w (fun e w' => e = .returned (.bool true) ∧ Below w.heap.size w w') := by
 have hb := (Below.refl w.heap.size w).alloc (Nat.le_refl _) (.cells #[.slice h.s m.sT.length h.sc, .slice h.f m.fT.length h.fc, .slice h.r m.rT.length h.rc, .slice h.m m.mT.length h.mc, .slice h.l m.lT.length h.lc, .slice h.i m.iT.length h.ic, .int .i64 m.dT, .int .i64 m.oT, .int .i64 m.vT, .int .i64 m.aT, .slice h.u m.uT.length h.uc] 29)
 have HB := hide hb
 have HM0 := hide (Blk.new w 29 #[.slice h.s m.sT.length h.sc, .slice h.f m.fT.length h.fc, .slice h.r m.rT.length h.rc, .slice h.m m.mT.length h.mc, .slice h.l m.lT.length h.lc, .slice h.i m.iT.length h.ic, .int .i64 m.dT, .int .i64 m.oT, .int .i64 m.vT, .int .i64 m.aT, .slice h.u m.uT.length h.uc])
 have HFW := hide (few58_ref h m l A c 30 _ (d.grow hb) (hE.grow hb) hl)
 have HAW := hide (fun W (hW : Below w.heap.size w W) => awake58 W (ha.below (Nat.le_refl _) hW) (hpw.below (Nat.le_refl _) hW))
 have HD := hide (fun W (hW : Below w.heap.size w W) => And.intro (d.grow hW) (hE.grow hW))
 have HA := hide ha
 have HK := hide (And.intro k1 (And.intro k2 k3))
 have hil := d.il
 clear hb d k1 k2 k3 hE ha hpw hl
 have hB : ∀ b : Bool, b = false ∨ b = true := fun b => by cases b <;> simp
 rcases hB ((m.iT.length : Int) == 0) with g | g
 · have hpos : 0 < m.iT.length := by
     rcases Nat.eq_zero_or_pos m.iT.length with h0 | h0
     · rw [h0] at g; simp at g
     · exact h0
   obtain ⟨a, haE⟩ : ∃ a : Nat, a = it.toNat % m.iT.length := ⟨_, rfl⟩
   have hal : a < m.iT.length := by rw [haE]; exact Nat.mod_lt _ hpos
   have hr1 : Int.tmod it (m.iT.length : Int) = (a : Int) := by
    rw [haE, Int.tmod_eq_emod_of_nonneg hi.1, Int.natCast_emod, Int.toNat_of_nonneg hi.1]
   obtain ⟨wn, hwn⟩ : ∃ wn : Int, wn = nn % 4 := ⟨_, rfl⟩
   have hw0 : 0 ≤ wn ∧ wn ≤ 3 := by omega
   have hr2 : Int.tmod nn 4 = wn := by rw [Int.tmod_eq_emod_of_nonneg hn.1, hwn]
   have hc1 : IntKind.i64.wrap it = it := by rw [IntKind.wrap_i64]; omega
   have hc2 : IntKind.i64.wrap nn = nn := by rw [IntKind.wrap_i64]; omega
   have ha8 : (a : Int) ≤ 255 := by
    have : a ≤ it.toNat := by rw [haE]; exact Nat.mod_le _ _
    omega
   clear haE hwn
   have HAL := hide hal
   have HW0 := hide hw0
   go_enter Tryz.func4, Tryz.ntmps4
   go_wp2_with (first
    | (go_at_call 5; refine HFW.out.mono ?_; rintro e w1 ⟨b, rfl, hb1, hq⟩
       have hm1 := HM0.out.below hb1 (by simp)
       obtain ⟨a0, a1, a2, a3, a4, a5, a6, a7, a8, a9, a10⟩ := MB.cells hm1
       have lt1 := hm1.lt
       have mf := hm1.frozen 10
       have HB1 := hide (HB.out.trans (hb1.mono (by simp)))
       have HM1 := hide hm1
       have HQ := hide hq
       clear hm1 hb1 hq
       cases b)
    | (go_at_call 6; refine (HAW.out _ HB1.out).mono ?_; rintro e w2 ⟨rfl, hb2⟩
       have HB2 := hide (HB1.out.trans (hb2.mono HB1.out.size))
       clear hb2)
    | (go_at_call 7
       obtain ⟨hv, hl30, hold⟩ := HQ.out trivial
       rw [show (1 : Int) + (a : Int) = (a : Int) + 1 from Int.add_comm _ _]
       have hset := HM1.out.set_ 10 (.slice (some ⟨w1.heap.size, 0, none⟩) 1 1)
       obtain ⟨w5, hw5⟩ : ∃ w5, w5 = ((w1.setCell ⟨w.heap.size, 10, none⟩ (.slice (some ⟨w1.heap.size, 0, none⟩) 1 1)).alloc (.cells #[.int .i64 1, .int .i64 ((a : Int) + 1), .int .i64 0, .int .i64 wn, .int .i64 0, .bool true, .slice none 0 0] 55)) := ⟨_, rfl⟩
       have hsz1 : w.heap.size ≤ w1.heap.size := HB1.out.size
       have hm5 : Blk w5 w.heap.size 29 #[.slice h.s m.sT.length h.sc, .slice h.f m.fT.length h.fc, .slice h.r m.rT.length h.rc, .slice h.m m.mT.length h.mc, .slice h.l m.lT.length h.lc, .slice h.i m.iT.length h.ic, .int .i64 m.dT, .int .i64 m.oT, .int .i64 m.vT, .int .i64 m.aT, .slice (some ⟨w1.heap.size, 0, none⟩) 1 1] := by rw [hw5]; exact (by simpa using hset : Blk (w1.setCell ⟨w.heap.size, 10, none⟩ (.slice (some ⟨w1.heap.size, 0, none⟩) 1 1)) w.heap.size 29 #[.slice h.s m.sT.length h.sc, .slice h.f m.fT.length h.fc, .slice h.r m.rT.length h.rc, .slice h.m m.mT.length h.mc, .slice h.l m.lT.length h.lc, .slice h.i m.iT.length h.ic, .int .i64 m.dT, .int .i64 m.oT, .int .i64 m.vT, .int .i64 m.aT, .slice (some ⟨w1.heap.size, 0, none⟩) 1 1]).alloc _
       have hsc : (w1.setCell ⟨w.heap.size, 10, none⟩ (.slice (some ⟨w1.heap.size, 0, none⟩) 1 1)).heap.size = w1.heap.size := by simp
       have hr5 : Blk w5 w1.heap.size 55 #[.int .i64 1, .int .i64 ((a : Int) + 1), .int .i64 0, .int .i64 wn, .int .i64 0, .bool true, .slice none 0 0] := by
        rw [hw5]
        have := Blk.new (w1.setCell ⟨w.heap.size, 10, none⟩ (.slice (some ⟨w1.heap.size, 0, none⟩) 1 1)) 55 #[.int .i64 1, .int .i64 ((a : Int) + 1), .int .i64 0, .int .i64 wn, .int .i64 0, .bool true, .slice none 0 0]
        rw [hsc] at this
        exact this
       have hb5 : Below w.heap.size w w5 := by rw [hw5]; exact (HB1.out.setCell (by simp) _).alloc (by rw [hsc]; exact hsz1) _
       rw [← hw5]
       have HEV := hide (fun W (hW : Below w.heap.size w W) => (HD.out W hW).2)
       obtain ⟨h, m, hce, hd5, hv2, hrl, hal2, q1, q2, q3⟩ : ∃ (hh : MH) (mm : Mod), (#[.slice h.s m.sT.length h.sc, .slice h.f m.fT.length h.fc, .slice h.r m.rT.length h.rc, .slice h.m m.mT.length h.mc, .slice h.l m.lT.length h.lc, .slice h.i m.iT.length h.ic, .int .i64 m.dT, .int .i64 m.oT, .int .i64 m.vT, .int .i64 m.aT, .slice (some ⟨w1.heap.size, 0, none⟩) 1 1] : Array Value) = #[.slice hh.s mm.sT.length hh.sc, .slice hh.f mm.fT.length hh.fc, .slice hh.r mm.rT.length hh.rc, .slice hh.m mm.mT.length hh.mc, .slice hh.l mm.lT.length hh.lc, .slice hh.i mm.iT.length hh.ic, .int .i64 mm.dT, .int .i64 mm.oT, .int .i64 mm.vT, .int .i64 mm.aT, .slice hh.u mm.uT.length hh.uc] ∧ MD w5 w5.heap.size hh mm ∧ validM mm = true ∧ mm.uT = [keepRule a wn] ∧ a < mm.iT.length ∧ mm.rT.length ≤ hh.rc ∧ mm.mT.length ≤ hh.mc ∧ mm.lT.length ≤ hh.lc := by
        refine ⟨{ h with u := some ⟨w1.heap.size, 0, none⟩, uc := 1 }, keepM m a wn, rfl, ?_, keep_valid hv HAL.out HW0.out.1 HW0.out.2, rfl, HAL.out, HK.out.1, HK.out.2.1, HK.out.2.2⟩
        have hd := (HD.out w5 hb5).1
        refine ⟨hd.dS, hd.dF, hd.dR, hd.dM, hd.dL, hd.dI, ?_, hd.sl, hd.fl, hd.rl, hd.ml, hd.ll, hd.il, by simp [keepM], hd.sf, hd.ff⟩
        intro k hk
        obtain rfl : k = 0 := by simp [keepM] at hk; omega
        refine ⟨w1.heap.size, 0, [.int .i64 1, .int .i64 ((a : Int) + 1), .int .i64 0, .int .i64 wn, .int .i64 0, .bool true, .slice none 0 0], rfl, hr5.lt, rfl, ⟨none, 0, rfl, by simp [keepRule, keepM], by decide, ⟨rfl, fun h0 => absurd h0 (by simp [keepRule, keepM])⟩⟩, fun jj u hu => ?_⟩
        rw [Nat.zero_mul, Nat.zero_add, hr5.cell]
        simpa using hu
       rw [hce] at hm5 ⊢
       obtain ⟨s1, s2, s3, s4, s5, s6⟩ := valid_sizes hv2
       have hP := placements_prog h m l A c w5 hd5 q1 q2 q3 (HA.out.below (Nat.le_refl _) hb5) hv2 (HEV.out w5 hb5) (by omega) (by omega) (fun y hy => by have := valid_on hv2 hy; omega) (by omega) hold
       refine hP.mono ?_
       rintro e w6 ⟨A3, c3, rfl, _, _, hp6, hb6⟩
       have HS6 := hide (MS.grow (MS.mk hm5 hb5) hb6)
       have HD6 := hide (fun W (hW : Below w6.heap.size w6 W) => (hd5.grow hb6).grow hW)
       have HP6 := hide hp6
       have HV2 := hide (And.intro hv2 (And.intro hrl (And.intro hal2 (And.intro q1 (And.intro q2 (And.intro q3 (And.intro hl30 hold)))))))
       have hil8 : m.iT.length ≤ 8 := s1
       have hml8 : m.mT.length ≤ 16 := s3
       clear hce hset hsc hw5 hr5 a0 a1 a2 a3 a4 a5 a6 a7 a8 a9 a10 lt1 mf hm5 hd5 hb5 hb6 hp6 hv2 hrl hal2 q1 q2 q3 s1 s2 s3 s4 s5 s6 hv hl30 hold hsz1 hP))
   · go_ret
     exact ⟨rfl, HB2.out⟩
   · have hl30 : l.length ≤ 30 := by have := HV2.out.2.2.2.2.2.2.1; omega
     have hHM := HS6.out.m.lt
     clear hr1 hr2 hc1 hc2 hi hn g
     go_loopw [11, 12, 50] (fun v kv iv wr => KpI m a wn l w6 v kv iv wr) (fun _ _ i _ => l.length - (intOf i).toNat)
     case atStart => exact ⟨0, Nat.zero_le _, rfl, ⟨0, rfl, rfl⟩, hide (OwnI.nil_ _ _), Below.refl _ _⟩
     case round =>
      obtain ⟨e, he, rfl, ⟨q, hq, rfl⟩, hO, hbr⟩ := hrel
      have hq30 : q ≤ 30 := by have := placesM_len m (l.take e); simp at this; omega
      by_cases hlt : e < l.length
      · obtain ⟨x, hx⟩ : ∃ x, l[e] = x := ⟨_, rfl⟩
        have hbw : Below w.heap.size w wr := HS6.out.b.trans (hbr.mono HS6.out.b.size)
        obtain ⟨b, off, j, hAe, hb, ho1, ho2, hoI, hc⟩ := (HEV.out wr hbw).evRange hlt hx
        have hbl := hb
        have hba : Below wr.heap.size wr (wr.alloc (.cells #[.int .i64 x.kind, .int .i64 x.mach, .int .i64 j.v2, .int .i64 j.v3, .int .i64 x.group, .int .i64 j.v5, .string j.v6, .int .i64 j.v7, .int .i64 j.v8, .int .i64 j.v9, .bool j.v10, .int .i64 j.v11, .slice j.A x.old.length j.c, .slice j.A13 j.n13 j.c13, .slice j.A14 j.n14 j.c14, .int .i64 x.hitem, .int .i64 j.v16, .int .i64 x.hstate, .int .i64 j.v18, .int .i64 j.v19, .bool x.gone, .int .i64 x.outcome] 50)) := (Below.refl _ _).alloc (Nat.le_refl _) _
        have HSX := hide (HS6.out.grow (hbr.trans (hba.mono hbr.size)))
        have HC := hide (counts_ref h m x j (wr.alloc (.cells #[.int .i64 x.kind, .int .i64 x.mach, .int .i64 j.v2, .int .i64 j.v3, .int .i64 x.group, .int .i64 j.v5, .string j.v6, .int .i64 j.v7, .int .i64 j.v8, .int .i64 j.v9, .bool j.v10, .int .i64 j.v11, .slice j.A x.old.length j.c, .slice j.A13 j.n13 j.c13, .slice j.A14 j.n14 j.c14, .int .i64 x.hitem, .int .i64 j.v16, .int .i64 x.hstate, .int .i64 j.v18, .int .i64 j.v19, .bool x.gone, .int .i64 x.outcome] 50)) (HD6.out _ (hbr.trans (hba.mono hbr.size))) (fun y hy => valid_kind HV2.out.1 hy))
        have HBA := hide (hbr.trans (hba.mono hbr.size))
        have HCR := hide hc
        have HLT := hide hlt
        have HO := hide (hO.out.below hba)
        have HKS := hide (keepTo_succ m a wn l e)
        have HX := hide hx
        have hlI : (e : Int) < (l.length : Int) := by omega
        obtain ⟨a0, a1, a2, a3, a4, a5, a6, a7, a8, a9, a10⟩ := MB.cells HSX.out.m
        have al := HSX.out.m.lt
        subst hAe
        clear hc hx hba hbw ho1 ho2 hoI hbr hO
        cases hcb : countsB m x
        · rw [hcb] at HC
          have HKB := hide (show keepB m a wn l e = false by unfold keepB; rw [List.getElem?_eq_getElem hlt, HX.out]; simp [hcb])
          have HPL := hide (show (placesM m (l.take (e + 1))).length = q + 1 by rw [placesM_succ hlt, HX.out, hcb]; simpa using hq)
          go_wp2_with (first
           | (refine wpList_load_mid (op := ⟨some 54, _, _, _, _, _⟩) rfl 50 _ rfl b (off + e * 22) rfl [.int .i64 x.kind, .int .i64 x.mach, .int .i64 j.v2, .int .i64 j.v3, .int .i64 x.group, .int .i64 j.v5, .string j.v6, .int .i64 j.v7, .int .i64 j.v8, .int .i64 j.v9, .bool j.v10, .int .i64 j.v11, .slice j.A x.old.length j.c, .slice j.A13 j.n13 j.c13, .slice j.A14 j.n14 j.c14, .int .i64 x.hitem, .int .i64 j.v16, .int .i64 x.hstate, .int .i64 j.v18, .int .i64 j.v19, .bool x.gone, .int .i64 x.outcome] _ HCR.out Tryz.underlying50 rfl sizeEv ?_)
           | (refine wpList_store_row (o := ⟨none, .store 50 _ _, _, _, _, _⟩) rfl 50 _ _ rfl wr.heap.size #[.int .i64 x.kind, .int .i64 x.mach, .int .i64 j.v2, .int .i64 j.v3, .int .i64 x.group, .int .i64 j.v5, .string j.v6, .int .i64 j.v7, .int .i64 j.v8, .int .i64 j.v9, .bool j.v10, .int .i64 j.v11, .slice j.A x.old.length j.c, .slice j.A13 j.n13 j.c13, .slice j.A14 j.n14 j.c14, .int .i64 x.hitem, .int .i64 j.v16, .int .i64 x.hstate, .int .i64 j.v18, .int .i64 j.v19, .bool x.gone, .int .i64 x.outcome] rfl rfl 50 _ (heap_alloc_last wr _) sizeEv rfl (ev_one x j) ?_; rw [World.setRow_alloc_new])
           | (refine wpList_load_row (o := ⟨some 56, _, _, _, _, _⟩) rfl 50 _ rfl wr.heap.size rfl 50 #[.int .i64 x.kind, .int .i64 x.mach, .int .i64 j.v2, .int .i64 j.v3, .int .i64 x.group, .int .i64 j.v5, .string j.v6, .int .i64 j.v7, .int .i64 j.v8, .int .i64 j.v9, .bool j.v10, .int .i64 j.v11, .slice j.A x.old.length j.c, .slice j.A13 j.n13 j.c13, .slice j.A14 j.n14 j.c14, .int .i64 x.hitem, .int .i64 j.v16, .int .i64 x.hstate, .int .i64 j.v18, .int .i64 j.v19, .bool x.gone, .int .i64 x.outcome] (0, 0) _ (heap_alloc_last wr _) Tryz.underlying50 rfl sizeEv ?_)
           | ((with_reducible refine HC.out.mono ?_); rintro e w7 ⟨rfl, hb7⟩))
          go_roundw
          case rel => exact ⟨e + 1, HLT.out, by go_num, ⟨q, HPL.out, rfl⟩, hide (by rw [HKS.out, HKB.out]; simpa using HO.out.below hb7), HBA.out.trans (hb7.mono HBA.out.size)⟩
          case measure => have := HLT.out; simp [intOf]; omega
        · rw [hcb] at HC
          obtain ⟨hjl, hat⟩ := places_at hlt (by rw [HX.out]; exact hcb)
          have HPL := hide (show (placesM m (l.take (e + 1))).length = q + 1 + 1 by rw [placesM_succ hlt, HX.out, hcb]; simpa using hq)
          have hjl2 : q + 1 < (placesM m l).length := by rw [← hq]; exact hjl
          have hqI : (q : Int) + 1 < ((placesM m l).length : Int) := by omega
          have hplb : (placesM m l).length ≤ 31 := by have := placesM_len m l; omega
          obtain ⟨PL, hPL⟩ : ∃ PL, PL = (placesM m l).length := ⟨_, rfl⟩
          obtain ⟨P, hP⟩ : ∃ P, P = placeAt m l (e + 1) := ⟨_, rfl⟩
          have hat2 : (placesM m l)[q + 1] = P := by rw [hP, ← hat]; congr 1; exact hq.symm
          obtain ⟨bp, op, A8, c8, hA3, hbp, hx8, hP8⟩ := HP6.out (q + 1) hjl2
          rw [hat2] at hx8 hP8
          have hrm := room_valid HV2.out.1 l (e + 1) HLT.out
          rw [← hP] at hrm
          have HPB := hide (And.intro (show P.length ≤ 1000 by have := hrm.1; omega) (show (unitsP P ((a : Int) + 1)).length ≤ 1000 by have := hrm.unitsP ((a : Int) + 1); omega))
          have HMB := hide (show (machinesP P ((a : Int) + 1) 0).length ≤ 1000 by have := machinesP_len P ((a : Int) + 1) 0; have := HPB.out.2; omega)
          obtain ⟨bi, oi, Ai, ci, hAi, hbi, i0, i1, i2, i3, i4, i5, i6, _, _, _, _⟩ := (HD6.out w6 (Below.refl _ _)).dI.item HV2.out.2.2.1
          have hal3 : a < m.iT.length := HV2.out.2.2.1
          have hoc : m.iT[a].on.length ≤ 16 := valid_on HV2.out.1 (List.getElem_mem HV2.out.2.2.1)
          have hKB : keepB m a wn l e = (decide (((machinesP P ((a : Int) + 1) 0).length : Int) < wn) && !decide (m.iT[a].kind = 2) && decide (wn ≤ (m.iT[a].on.length : Int))) := by
           unfold keepB
           rw [List.getElem?_eq_getElem hlt, HX.out, init_ready HV2.out.2.2.1, kindI_yes HV2.out.2.2.1, hP]
           simp [hcb]
          have hal2 : (a : Int) < (m.iT.length : Int) := by have := HV2.out.2.2.1; omega
          obtain ⟨MM, hMM⟩ : ∃ MM, MM = machinesP P ((a : Int) + 1) 0 := ⟨_, rfl⟩
          obtain ⟨KK, hKK⟩ : ∃ KK, KK = m.iT[a].kind := ⟨_, rfl⟩
          obtain ⟨OO, hOO⟩ : ∃ OO, OO = m.iT[a].on.length := ⟨_, rfl⟩
          rw [← hMM, ← hKK, ← hOO] at hKB
          rw [← hKK] at i1
          rw [← hOO] at i6 hoc
          have HMM := hide hMM
          have hllb : MM.length ≤ 1000 := by rw [hMM]; exact HMB.out
          have HI1 := hide (And.intro i1 i6)
          have HX8 := hide hx8
          have HP8 := hide hP8
          have HKB := hide hKB
          have HAI := hide hAi
          subst hA3
          rw [hAi, ← hPL]
          rw [← hPL] at hqI hplb
          have hge : decide ((PL : Int) ≤ (q : Int) + 1) = false := by simpa using hqI
          clear hjl hat hjl2 hat2 hP hx8 hP8 hrm hKB i0 i1 i2 i3 i4 i5 i6 hAi hq hcb hMM hKK hOO hal3 hPL
          have HKL := hide (show (keepTo m a wn l e).length ≤ e from keepTo_len m a wn l e)
          have hB : ∀ b : Bool, b = false ∨ b = true := fun b => by cases b <;> simp
          obtain ⟨kb, hkb⟩ : ∃ kb, kb = keepB m a wn l e := ⟨_, rfl⟩
          rw [← hkb] at HKB
          have HKE := hide hkb
          clear hkb
          go_upto_region 16 with (first
           | (refine wpList_load_mid (op := ⟨some 54, _, _, _, _, _⟩) rfl 50 _ rfl b (off + e * 22) rfl [.int .i64 x.kind, .int .i64 x.mach, .int .i64 j.v2, .int .i64 j.v3, .int .i64 x.group, .int .i64 j.v5, .string j.v6, .int .i64 j.v7, .int .i64 j.v8, .int .i64 j.v9, .bool j.v10, .int .i64 j.v11, .slice j.A x.old.length j.c, .slice j.A13 j.n13 j.c13, .slice j.A14 j.n14 j.c14, .int .i64 x.hitem, .int .i64 j.v16, .int .i64 x.hstate, .int .i64 j.v18, .int .i64 j.v19, .bool x.gone, .int .i64 x.outcome] _ HCR.out Tryz.underlying50 rfl sizeEv ?_)
           | (refine wpList_store_row (o := ⟨none, .store 50 _ _, _, _, _, _⟩) rfl 50 _ _ rfl wr.heap.size #[.int .i64 x.kind, .int .i64 x.mach, .int .i64 j.v2, .int .i64 j.v3, .int .i64 x.group, .int .i64 j.v5, .string j.v6, .int .i64 j.v7, .int .i64 j.v8, .int .i64 j.v9, .bool j.v10, .int .i64 j.v11, .slice j.A x.old.length j.c, .slice j.A13 j.n13 j.c13, .slice j.A14 j.n14 j.c14, .int .i64 x.hitem, .int .i64 j.v16, .int .i64 x.hstate, .int .i64 j.v18, .int .i64 j.v19, .bool x.gone, .int .i64 x.outcome] rfl rfl 50 _ (heap_alloc_last wr _) sizeEv rfl (ev_one x j) ?_; rw [World.setRow_alloc_new])
           | (refine wpList_load_row (o := ⟨some 56, _, _, _, _, _⟩) rfl 50 _ rfl wr.heap.size rfl 50 #[.int .i64 x.kind, .int .i64 x.mach, .int .i64 j.v2, .int .i64 j.v3, .int .i64 x.group, .int .i64 j.v5, .string j.v6, .int .i64 j.v7, .int .i64 j.v8, .int .i64 j.v9, .bool j.v10, .int .i64 j.v11, .slice j.A x.old.length j.c, .slice j.A13 j.n13 j.c13, .slice j.A14 j.n14 j.c14, .int .i64 x.hitem, .int .i64 j.v16, .int .i64 x.hstate, .int .i64 j.v18, .int .i64 j.v19, .bool x.gone, .int .i64 x.outcome] (0, 0) _ (heap_alloc_last wr _) Tryz.underlying50 rfl sizeEv ?_)
           | ((with_reducible refine HC.out.mono ?_); rintro e7 w7 ⟨rfl, hb7⟩
              have hb67 := HBA.out.trans (hb7.mono HBA.out.size)
              have z8 := (hb67.cell (p := ⟨bp, op + (q + 1), none⟩) hbp).trans HX8.out
              have z8b : w7.cell? ⟨bp, op + q + 1, none⟩ = some (.slice A8 P.length c8) := by rw [Nat.add_assoc]; exact z8
              have z8c : w7.cell? ⟨bp, op + ((q : Int) + 1).toNat, none⟩ = some (.slice A8 P.length c8) := by rw [show ((q : Int) + 1).toNat = q + 1 by omega]; exact z8
              have zl8 := Nat.lt_of_lt_of_le hbp hb67.size
              have HB67 := hide hb67
              have HS7 := hide (HSX.out.grow hb7)
              have HMA := hide (machines_ref A8 c8 P ((a : Int) + 1) 0 w7 ((HP8.out.below hb67).pr) HPB.out.1 HPB.out.2)
              rw [← HMM.out] at HMA
              have HO7 := hide (HO.out.below hb7)
              clear a0 a1 a2 a3 a4 a5 a6 a7 a8 a9 a10 al
              clear hb7 hb67))
          go_cut [50, 95] from 50 to 100 (fun iv cv wx => iv = .int .i64 (e : Int) ∧ cv = .bool kb ∧ Below w7.heap.size w7 wx)
          case first =>
           rcases hB (decide ((MM.length : Int) < wn)) with c1 | c1
           · have HKF := hide (show kb = false by rw [HKB.out]; simp only [decide_eq_false_iff_not] at c1; simp [c1])
             go_wp2_with ((with_reducible refine HMA.out.mono ?_); rintro e8 w8 ⟨v8, rfl, ho8, hb8⟩
                          obtain ⟨A9, c9, rfl, hlc9, -⟩ := ho8.form
                          have hb68 := HB67.out.trans (hb8.mono HB67.out.size)
                          have y1 := (hb68.cell (p := ⟨bi, oi + a * 7 + 1, none⟩) hbi).trans HI1.out.1
                          have y6 := (hb68.cell (p := ⟨bi, oi + a * 7 + 6, none⟩) hbi).trans HI1.out.2
                          have yl := Nat.lt_of_lt_of_le hbi hb68.size
                          obtain ⟨-, -, -, -, -, m5, -, -, -, -, -⟩ := MB.cells (HS7.out.grow hb8).m
                          rw [HAI.out] at m5
                          have ml := (HS7.out.grow hb8).m.lt
                          have HB8 := hide hb8
                          clear ho8 hb8 hb68)
             go_meet
             exact ⟨rfl, by rw [HKF.out], HB8.out⟩
           · rcases hB (KK != 2) with c2 | c2
             · have HKF := hide (show kb = false by rw [HKB.out]; simp only [bne_eq_false_iff_eq, decide_eq_true_eq] at c1 c2; simp [c1, c2])
               go_wp2_with ((with_reducible refine HMA.out.mono ?_); rintro e8 w8 ⟨v8, rfl, ho8, hb8⟩
                            obtain ⟨A9, c9, rfl, hlc9, -⟩ := ho8.form
                            have hb68 := HB67.out.trans (hb8.mono HB67.out.size)
                            have y1 := (hb68.cell (p := ⟨bi, oi + a * 7 + 1, none⟩) hbi).trans HI1.out.1
                            have y6 := (hb68.cell (p := ⟨bi, oi + a * 7 + 6, none⟩) hbi).trans HI1.out.2
                            have yl := Nat.lt_of_lt_of_le hbi hb68.size
                            obtain ⟨-, -, -, -, -, m5, -, -, -, -, -⟩ := MB.cells (HS7.out.grow hb8).m
                            rw [HAI.out] at m5
                            have ml := (HS7.out.grow hb8).m.lt
                            have HB8 := hide hb8
                            clear ho8 hb8 hb68)
               go_meet
               exact ⟨rfl, by rw [HKF.out], HB8.out⟩
             · rcases hB (decide (wn ≤ (OO : Int))) with c3 | c3
               · have HKF := hide (show kb = false by rw [HKB.out]; simp only [bne_iff_ne, decide_eq_true_eq, decide_eq_false_iff_not] at c1 c2 c3; simp [c1, c2, c3])
                 go_wp2_with ((with_reducible refine HMA.out.mono ?_); rintro e8 w8 ⟨v8, rfl, ho8, hb8⟩
                              obtain ⟨A9, c9, rfl, hlc9, -⟩ := ho8.form
                              have hb68 := HB67.out.trans (hb8.mono HB67.out.size)
                              have y1 := (hb68.cell (p := ⟨bi, oi + a * 7 + 1, none⟩) hbi).trans HI1.out.1
                              have y6 := (hb68.cell (p := ⟨bi, oi + a * 7 + 6, none⟩) hbi).trans HI1.out.2
                              have yl := Nat.lt_of_lt_of_le hbi hb68.size
                              obtain ⟨-, -, -, -, -, m5, -, -, -, -, -⟩ := MB.cells (HS7.out.grow hb8).m
                              rw [HAI.out] at m5
                              have ml := (HS7.out.grow hb8).m.lt
                              have HB8 := hide hb8
                              clear ho8 hb8 hb68)
                 go_meet
                 exact ⟨rfl, by rw [HKF.out], HB8.out⟩
               · have HKF := hide (show kb = true by rw [HKB.out]; simp only [bne_iff_ne, decide_eq_true_eq] at c1 c2 c3; simp [c1, c2, c3])
                 go_wp2_with ((with_reducible refine HMA.out.mono ?_); rintro e8 w8 ⟨v8, rfl, ho8, hb8⟩
                              obtain ⟨A9, c9, rfl, hlc9, -⟩ := ho8.form
                              have hb68 := HB67.out.trans (hb8.mono HB67.out.size)
                              have y1 := (hb68.cell (p := ⟨bi, oi + a * 7 + 1, none⟩) hbi).trans HI1.out.1
                              have y6 := (hb68.cell (p := ⟨bi, oi + a * 7 + 6, none⟩) hbi).trans HI1.out.2
                              have yl := Nat.lt_of_lt_of_le hbi hb68.size
                              obtain ⟨-, -, -, -, -, m5, -, -, -, -, -⟩ := MB.cells (HS7.out.grow hb8).m
                              rw [HAI.out] at m5
                              have ml := (HS7.out.grow hb8).m.lt
                              have HB8 := hide hb8
                              clear ho8 hb8 hb68)
                 go_meet
                 exact ⟨rfl, by rw [HKF.out], HB8.out⟩
          case rest =>
           obtain ⟨rfl, rfl, hbx⟩ := hcut
           have HB68 := hide (HB67.out.trans (hbx.mono HB67.out.size))
           have HO8 := hide (HO7.out.below hbx)
           have hzz : w6.heap.size ≤ wc.heap.size := HB68.out.size
           clear z8 z8b z8c zl8 hbx
           cases kb
           · go_wp2_with fail
             go_roundw
             case rel => exact ⟨e + 1, HLT.out, by go_num, ⟨q + 1, HPL.out, by go_num⟩, hide (by rw [HKS.out, ← HKE.out]; simpa using HO8.out), HB68.out⟩
             case measure => have := HLT.out; simp [intOf]; omega
           · have HR8 := hide (Ints.newRow2 wc 3 [(e : Int)] rfl)
             have HZ8 := hide (show w6.heap.size ≤ (wc.alloc (.cells #[.int .i64 (e : Int)] 3)).heap.size by simp; omega)
             go_wp2_with (at_builtin; refine append_ints rfl _ _ rfl w6.heap.size _ (keepTo m a wn l e) rfl (HO8.out.alloc _) (wc.heap.size + 1) (some ⟨wc.heap.size, 0, none⟩) _ [(e : Int)] rfl HR8.out (by have := HKL.out; simp; omega) HZ8.out ?_; intro v9 w9 ho9 hg9 _
                          have HB9 := hide ((HB68.out.alloc HB68.out.size (.cells #[.int .i64 (e : Int)] 3)).grown hg9 HZ8.out (fun g hg => (HO8.out.lt g hg).1))
                          have HO9 := hide ho9
                          clear ho9 hg9)
             go_roundw
             case rel => exact ⟨e + 1, HLT.out, by go_num, ⟨q + 1, HPL.out, by go_num⟩, hide (by rw [HKS.out, ← HKE.out]; exact HO9.out), HB9.out⟩
             case measure => have := HLT.out; simp [intOf]; omega
      · obtain rfl : e = l.length := by omega
        have hbw : Below w.heap.size w wr := HS6.out.b.trans (hbr.mono HS6.out.b.size)
        have HBP := hide (breaches_prog h m l A c wr (valid_brc (HD6.out wr hbr) HV2.out.1) HV2.out.2.2.2.1 HV2.out.2.2.2.2.1 HV2.out.2.2.2.2.2.1 (HA.out.below (Nat.le_refl _) hbw) HV2.out.1 (HEV.out wr hbw) (by omega) HV2.out.2.2.2.2.2.2.2)
        obtain ⟨KT, hKT⟩ : ∃ KT, KT = keepTo m a wn l l.length := ⟨_, rfl⟩
        have HBK := hide (show breachesM m l = KT.map fun e => (e, 1, 1, (a : Int) + 1) by rw [hKT]; exact keep_breaks HV2.out.2.1 l l.length (Nat.le_refl _))
        have hktl : KT.length ≤ 30 := by rw [hKT]; have := keepTo_len m a wn l l.length; omega
        rw [HBK.out] at HBP
        rw [← hKT] at hO
        obtain ⟨A9, c9, rfl, hlc9, hI9⟩ := hO.out.form
        have HI9 := hide hI9
        have HSr := hide (HS6.out.grow hbr)
        obtain ⟨a0, a1, a2, a3, a4, a5, a6, a7, a8, a9, a10⟩ := MB.cells HSr.out.m
        have al := HSr.out.m.lt
        clear hO hI9 hKT hbw hbr hlt
        obtain ⟨wo, rfl⟩ : ∃ wo : World, wo = wr := ⟨_, rfl⟩
        go_wp2_with ((with_reducible refine HBP.out.mono ?_); rintro e9 w9 ⟨v9, rfl, ho9, hb9⟩
                     obtain ⟨B9, d9, rfl, hrd9⟩ := ho9.rd
                     rw [List.length_map]
                     have HRD9 := hide hrd9
                     have HS9 := hide (HSr.out.grow hb9)
                     have HI10 := hide ((HI9.out.below hb9).more hb9.size)
                     clear ho9 hb9 hrd9)
        go_loopw [111] (fun iv wx => ∃ j : Nat, j ≤ KT.length ∧ iv = .int .i64 j ∧ Below w9.heap.size w9 wx) (fun i _ => KT.length - (intOf i).toNat)
        case atStart => exact ⟨0, Nat.zero_le _, rfl, Below.refl _ _⟩
        case round =>
         obtain ⟨j, hj, rfl, hbx⟩ := hrel
         have HBX := hide hbx
         by_cases hlt : j < KT.length
         · obtain ⟨b9, o9, hA9, hb9, y0, y1, y2, y3⟩ := (HRD9.out.grow hbx) j (by simpa using hlt)
           obtain ⟨bA, oA, hA10, hbA, z0⟩ := int_at ((HI10.out.below hbx).more hbx.size) hlt
           subst hA9 hA10
           simp only [List.getElem_map] at y0 y1 y2 y3
           obtain ⟨KJ, hKJ⟩ : ∃ KJ, KJ = KT[j] := ⟨_, rfl⟩
           rw [← hKJ] at y0 z0
           have e1 : (KJ != KJ) = false := by simp
           have e2 : ((a : Int) + 1 != (a : Int) + 1) = false := by simp
           clear hbx hKJ
           go_wp2_with fail
           go_quiet (fail)
           go_wp2_with fail
           go_roundw
           case rel => exact ⟨j + 1, by omega, by go_num, below_drawn (HBX.out.alloc HBX.out.size _) _⟩
           case measure => simp [intOf]; omega
         · obtain rfl : j = KT.length := by omega
           have HB10 := hide (HS9.out.b.trans (hbx.mono HS9.out.b.size))
           clear hbx
           go_wp2_with ((with_reducible refine (HAW.out _ HB10.out).mono ?_); rintro e11 w11 ⟨rfl, hb11⟩
                        have HB11 := hide (HB10.out.trans (hb11.mono HB10.out.size))
                        clear hb11)
           go_ret
           exact ⟨rfl, HB11.out⟩
 · go_enter Tryz.func4, Tryz.ntmps4
   go_wp2_with (first
    | (go_at_call 5; refine HFW.out.mono ?_; rintro e w1 ⟨b, rfl, hb1, hq⟩
       have hm1 := HM0.out.below hb1 (by simp)
       obtain ⟨a0, a1, a2, a3, a4, a5, a6, a7, a8, a9, a10⟩ := MB.cells hm1
       have lt1 := hm1.lt
       have HB1 := hide (HB.out.trans (hb1.mono (by simp)))
       clear hm1 hb1 hq
       cases b)
    | (go_at_call 6; refine (HAW.out _ HB1.out).mono ?_; rintro e w2 ⟨rfl, hb2⟩
       have HB2 := hide (HB1.out.trans (hb2.mono HB1.out.size))
       clear hb2))
   all_goals
    go_ret
    exact ⟨rfl, HB2.out⟩
end Go.Proofs.YtmjcgcnpeoemdaaGreatDoor
