/- A part of the claim: see its last text. -/
import Derived.Test.YtcfogipaadhbeaaGreatDoorUK34
import Derived.Test.YtcfogipaadhbeaaGreatDoorUK27
import Derived.Test.YtcfogipaadhbeaaGreatDoorUK17
import Derived.Test.YtcfogipaadhbeaaGreatDoorUK35
import Derived.Test.YtcfogipaadhbeaaGreatDoorUK38

set_option maxRecDepth 100000
set_option maxHeartbeats 16000000
namespace Go.Proofs.YtcfogipaadhbeaaGreatDoor
open Go Go.RowKit Go.Proofs
theorem valid19_at (d : Decl) (ra : Option Addr) (rc : Nat) (na : Option Addr) (nc : Nat) (w : World) (hf : Fine d) (hr : Strs w w.heap.size ra d.refs) (hn : Ints w w.heap.size na d.nums) :
    Calls Tryz.prog 19 #[.agg #[.int .i64 d.kind, .string d.name, .slice ra d.refs.length rc, .slice na d.nums.length nc, .int .i64 d.by_, .bool d.always]] w fun e w' => e = .returned (.bool (validD d)) ∧ Below w.heap.size w w' := by
 rw [← validB_D]
 exact valid_ref d.kind d.name ra d.refs rc na d.nums nc d.by_ d.always w hf.1 hf.2.1 hf.2.2.1 hf.2.2.2 hr hn
theorem resolveReturns_walk (h : MH) (m : Mod) (w : World) (d : MD w w.heap.size h m) (k1 : m.rT.length ≤ h.rc) (k2 : m.mT.length ≤ h.mc) (k3 : m.lT.length ≤ h.lc) (ha : Asc w) :
    Calls Tryz.prog 5 #[.agg #[.slice h.s m.sT.length h.sc, .slice h.f m.fT.length h.fc, .slice h.r m.rT.length h.rc, .slice h.m m.mT.length h.mc, .slice h.l m.lT.length h.lc, .slice h.i m.iT.length h.ic, .int .i64 m.dT, .int .i64 m.oT, .int .i64 m.vT, .int .i64 m.aT, .slice h.u m.uT.length h.uc]] w (AnsR w (.bool true)) := by
 have HM0 := hide (MW.start w h m)
 have HAW := hide (fun W (s : MW w w.heap.size W h m) => awake19 W (ha.below (Nat.le_refl _) s.b))
 have HF := hide (fun W (s : MW w w.heap.size W h m) => few22_ref h m W (s.md d))
 have hv15 := fun W (s : MW w w.heap.size W h m) => valid15_ref h m W (s.md d)
 have HDC := hide (fun (hv : validM m = true) W (s : MW w w.heap.size W h m) => decls19 h m W (s.md d) k1 k2 k3 (ha.below (Nat.le_refl _) s.b) hv)
 have D := hide d
 have HA := hide ha
 obtain ⟨vb, hvb⟩ : ∃ vb, vb = validM m := ⟨_, rfl⟩
 rw [← hvb] at hv15
 have HV := hide hv15
 clear d k1 k2 k3 ha hv15
 go_enter Tryz.func5, Tryz.ntmps5
 cases vb with
 | false =>
   clear hvb HDC
   go_wp2_with (first
    | (go_at_call 9; (with_reducible refine (HAW.out _ HM0.out).mono ?_); rintro e w1 ⟨rfl, hb1⟩
       have HM1 := hide (HM0.out.grow hb1)
       obtain ⟨a0, a1, a2, a3, a4, a5, a6, a7, a8, a9, a10⟩ := MB.cells HM1.out.blk
       have al := HM1.out.lt
       clear hb1)
    | (go_at_call 14; (with_reducible refine (HF.out _ HM1.out).mono ?_); rintro e w2 ⟨⟨b, rfl, hfew⟩, hb2⟩
       have HM2 := hide (HM1.out.grow hb2)
       clear hb2 hfew a0 a1 a2 a3 a4 a5 a6 a7 a8 a9 a10 al
       obtain ⟨a0, a1, a2, a3, a4, a5, a6, a7, a8, a9, a10⟩ := MB.cells HM2.out.blk
       have al := HM2.out.lt
       cases b)
    | (go_at_call 18; (with_reducible refine (HV.out _ HM2.out).mono ?_); rintro e w3 ⟨rfl, hb3⟩
       have HM3 := hide (HM2.out.grow hb3)
       clear hb3))
   · go_ret
     exact ⟨rfl, HM2.out.b⟩
   · go_ret
     exact ⟨rfl, HM3.out.b⟩
 | true =>
   have HVM := hide hvb.symm
   clear hvb
   have HD1 := hide (HDC.out HVM.out)
   clear HDC
   go_upto_region 7 with (first
    | (go_at_call 9; (with_reducible refine (HAW.out _ HM0.out).mono ?_); rintro e w1 ⟨rfl, hb1⟩
       have HM1 := hide (HM0.out.grow hb1)
       obtain ⟨a0, a1, a2, a3, a4, a5, a6, a7, a8, a9, a10⟩ := MB.cells HM1.out.blk
       have al := HM1.out.lt
       clear hb1)
    | (go_at_call 14; (with_reducible refine (HF.out _ HM1.out).mono ?_); rintro e w2 ⟨⟨b, rfl, hfew⟩, hb2⟩
       have HM2 := hide (HM1.out.grow hb2)
       clear hb2 hfew a0 a1 a2 a3 a4 a5 a6 a7 a8 a9 a10 al
       obtain ⟨a0, a1, a2, a3, a4, a5, a6, a7, a8, a9, a10⟩ := MB.cells HM2.out.blk
       have al := HM2.out.lt
       cases b)
    | (go_at_call 18; (with_reducible refine (HV.out _ HM2.out).mono ?_); rintro e w3 ⟨rfl, hb3⟩
       have HM3 := hide (HM2.out.grow hb3)
       clear hb3 a0 a1 a2 a3 a4 a5 a6 a7 a8 a9 a10 al
       obtain ⟨a0, a1, a2, a3, a4, a5, a6, a7, a8, a9, a10⟩ := MB.cells HM3.out.blk
       have al := HM3.out.lt)
    | (go_at_call 16; (with_reducible refine (HD1.out _ HM3.out).mono ?_); rintro e w4 ⟨v4, L4, rfl, hO4, hL4, hb4⟩
       have HM4 := hide (HM3.out.grow hb4)
       obtain ⟨A4, c4, rfl, _⟩ := hO4.form
       have hD4 := hO4.row.decls
       have hn4 := congrArg List.length hL4
       rw [List.length_map] at hn4
       rw [hL4] at hD4
       rw [hn4]
       have HD4 := hide hD4
       clear hb4 hO4 hL4 hD4 hn4))
   · go_ret
     exact ⟨rfl, HM2.out.b⟩
   · clear a0 a1 a2 a3 a4 a5 a6 a7 a8 a9 a10 al HAW HF HV HD1 HM0 HM1 HM2 HM3
     have HMR := hide (model_decls HVM.out)
     have HOK := hide (fun x (hx : x ∈ declsM m) => decls_validD HVM.out hx)
     have hl200 := decls_few HVM.out
     obtain ⟨l, hl⟩ : ∃ l, l = declsM m := ⟨_, rfl⟩
     rw [← hl] at HD4 HMR HOK hl200 ⊢
     clear hl
     go_loopw [4] (fun i wr => ∃ k : Nat, i = .int .i64 k ∧ k ≤ l.length ∧ Hid (Below w4.heap.size w4 wr)) (fun i _ => l.length - (intOf i).toNat)
     case atStart => exact ⟨0, rfl, Nat.zero_le _, hide (Below.refl _ _)⟩
     case round =>
      obtain ⟨k, rfl, hk, HB⟩ := hrel
      by_cases hlt : k < l.length
      · obtain ⟨b, off, ra, rc, na, nc, rfl, hb, y0, y1, y2, y3, y4, y5, _, hr, hn, hfine⟩ := ((HD4.out.below HB.out).more HB.out.size).at2_ hlt
        have hval := valid19_at l[k] ra rc na nc wr hfine hr hn
        rw [HOK.out _ (List.getElem_mem hlt)] at hval
        have HVL := hide hval
        have hkI : (k : Int) < (l.length : Int) := by omega
        clear hval hr hn hfine
        go_wp2_with (go_at_call 19; (with_reducible refine HVL.out.mono ?_); rintro e w5 ⟨rfl, hb5⟩
                     have HB5 := hide (HB.out.trans (hb5.mono HB.out.size))
                     clear hb5)
        go_roundw
        case rel => exact ⟨k + 1, by go_num, by omega, HB5⟩
        case measure => simp [intOf]; omega
      · have hkI : ¬ (k : Int) < (l.length : Int) := by omega
        have HM5 := hide (HM4.out.grow HB.out)
        have hmp := model_prog A4 c4 l wr (HA.out.below (Nat.le_refl _) HM5.out.b) ((HD4.out.below HB.out).more HB.out.size) (by omega)
        rw [HMR.out] at hmp
        have HMP := hide hmp
        clear hmp
        go_upto_region 12 with (first
         | (go_at_call 11; refine HMP.out.mono ?_; rintro e w6 ⟨h6, m6, hm6, e6, hd6, _, _, _, hb6⟩
            have hm6' : m6 = m := hm6
            subst hm6'
            have e6' : e = .returned (.tuple #[.agg (cells19 h6 m6), .int .i64 0, .int .i64 0]) := e6
            subst e6'
            have HM6 := hide (HM5.out.grow hb6)
            have HD6 := hide hd6
            clear e6 hm6 hb6 hd6)
         | (refine wpList_store_row (o := ⟨none, .store 32 _ _, _, _, _, _⟩) rfl 32 _ _ rfl w6.heap.size (cells19 h6 m6) rfl rfl 32 zeroMo (Blk.new w6 _ _) (by kernel_rfl) rfl (cells19_one _ _) ?_; rw [World.setRow_alloc_new]))
        have hb67 : Below w6.heap.size w6 (w6.alloc (.cells (cells19 h6 m6) 32)) := (Below.refl _ _).alloc (Nat.le_refl _) _
        have hK7 := Blk.new w6 32 (cells19 h6 m6)
        obtain ⟨w7, hw7⟩ : ∃ w7, w7 = w6.alloc (.cells (cells19 h6 m6) 32) := ⟨_, rfl⟩
        obtain ⟨b7, hb7⟩ : ∃ b7, b7 = w6.heap.size := ⟨_, rfl⟩
        rw [← hw7] at hb67 hK7 ⊢
        rw [← hb7] at hK7 ⊢
        have HM7 := hide (HM6.out.grow hb67)
        have HSM := hide (same15_ref h6 h m6 w7 (HD6.out.grow hb67) (HM7.out.md D.out))
        obtain ⟨a0, a1, a2, a3, a4, a5, a6, a7, a8, a9, a10⟩ := MB.cells HM7.out.blk
        have al := HM7.out.lt
        obtain ⟨c0, c1, c2, c3, c4', c5, c6, c7, c8, c9, c10⟩ := MB.cells (h := h6) (m := m6) hK7
        have cl := hK7.lt
        clear hw7 hb7 hb67 hK7 HM6 HD6 HM5 HMP
        go_wp2_with (go_at_call 13; (with_reducible refine HSM.out.mono ?_); rintro e w8 ⟨rfl, hb8⟩
                     have HB8 := hide (HM7.out.b.trans (hb8.mono HM7.out.b.size))
                     clear hb8)
        go_ret
        exact ⟨rfl, HB8.out⟩
end Go.Proofs.YtcfogipaadhbeaaGreatDoor
