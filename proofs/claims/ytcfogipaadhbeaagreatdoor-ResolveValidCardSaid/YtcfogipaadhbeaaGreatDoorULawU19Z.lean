/- A part of the claim: see its last text. -/
import Derived.Test.YtcfogipaadhbeaaGreatDoorUK34
import Derived.Test.YtcfogipaadhbeaaGreatDoorUK27
import Derived.Test.YtcfogipaadhbeaaGreatDoorUK38
import Derived.Test.YtcfogipaadhbeaaGreatDoorUK35

set_option maxRecDepth 100000
set_option maxHeartbeats 16000000
namespace Go.Proofs.YtcfogipaadhbeaaGreatDoor
open Go Go.RowKit Go.Proofs
theorem resolveValid_walk (A : Option Addr) (c : Nat) (l : List Decl) (w : World) (hd : Decls w w.heap.size A l) (hl : l.length ≤ 9223372036854775807) (ha : Asc w) :
    Calls Tryz.prog 6 #[.slice A l.length c] w (AnsR w (.bool true)) := by
 have HAW := hide (awake19 w ha)
 have HF := hide (fun W (s : Below w.heap.size w W) => few_ref A c l W ((hd.below s).more s.size) hl)
 have HA := hide ha
 have HD := hide hd
 have hfw : fewB l = true → l.length ≤ 120 := fun h => by unfold fewB at h; simp only [Bool.and_eq_true, decide_eq_true_eq] at h; exact h.2
 obtain ⟨fb, hfb⟩ : ∃ fb, fb = fewB l := ⟨_, rfl⟩
 rw [← hfb] at HF hfw
 clear hd ha hfb
 go_enter Tryz.func6, Tryz.ntmps6
 cases fb with
 | false =>
   go_wp2_with (first
    | (go_at_call 9; (with_reducible refine HAW.out.mono ?_); rintro e w1 ⟨rfl, hb1⟩
       have HB1 := hide hb1
       clear hb1)
    | (go_at_call 10; (with_reducible refine (HF.out _ HB1.out).mono ?_); rintro e w2 ⟨rfl, rfl⟩))
   go_ret
   exact ⟨rfl, HB1.out⟩
 | true =>
   have HLN := hide (hfw rfl)
   have HMP := hide (fun W (s : Below w.heap.size w W) => model_prog A c l W (HA.out.below (Nat.le_refl _) s) ((HD.out.below s).more s.size) (by have := HLN.out; omega))
   have HME := hide (fun h => model_error (l := l) h)
   have HMV := hide (fun h => model_valid (l := l) h)
   obtain ⟨mr, hmr⟩ : ∃ mr, mr = modelR l := ⟨_, rfl⟩
   rw [← hmr] at HMP HME HMV
   clear hmr hfw
   obtain ⟨m, p, er⟩ := mr
   go_upto_region 6 with (first
    | (go_at_call 9; (with_reducible refine HAW.out.mono ?_); rintro e w1 ⟨rfl, hb1⟩
       have HB1 := hide hb1
       clear hb1)
    | (go_at_call 10; (with_reducible refine (HF.out _ HB1.out).mono ?_); rintro e w2 ⟨rfl, rfl⟩)
    | (go_at_call 11; refine (HMP.out _ HB1.out).mono ?_; rintro e w3 ⟨h, m3, hm3, e3, hd3, k1, k2, k3, hb3⟩
       have hm3' : m3 = m := hm3
       subst hm3'
       have e3' : e = .returned (.tuple #[.agg (cells19 h m3), .int .i64 p, .int .i64 er]) := e3
       subst e3'
       have HB3 := hide (HB1.out.trans (hb3.mono HB1.out.size))
       have HD3 := hide (And.intro hd3 (And.intro k1 (And.intro k2 k3)))
       clear e3 hm3 hb3 hd3 k1 k2 k3)
    | (refine wpList_store_row (o := ⟨none, .store 32 _ _, _, _, _, _⟩) rfl 32 _ _ rfl w3.heap.size (cells19 h m3) rfl rfl 32 zeroMo (Blk.new w3 _ _) (by kernel_rfl) rfl (cells19_one _ _) ?_; rw [World.setRow_alloc_new]))
   have hb34 : Below w3.heap.size w3 (w3.alloc (.cells (cells19 h m3) 32)) := (Below.refl _ _).alloc (Nat.le_refl _) _
   have HK4 := hide (Blk.new w3 32 (cells19 h m3))
   obtain ⟨w4, hw4⟩ : ∃ w4, w4 = w3.alloc (.cells (cells19 h m3) 32) := ⟨_, rfl⟩
   obtain ⟨b4, hb4⟩ : ∃ b4, b4 = w3.heap.size := ⟨_, rfl⟩
   rw [← hw4] at hb34 HK4 ⊢
   rw [← hb4] at HK4 ⊢
   have HB4 := hide (HB3.out.trans (hb34.mono HB3.out.size))
   have HD4 := hide (HD3.out.1.grow hb34)
   clear hw4 hb4 hb34 HB3 HB1 HMP HF HAW
   by_cases her : er = 0
   rotate_left
   · obtain ⟨hz, hp0, hp1⟩ := HME.out her
     have hz' : m3 = zeroM := hz
     have hp0' : (0 : Int) ≤ p := hp0
     have hp1' : p ≤ (l.length : Int) := hp1
     subst hz'
     have e0 : ((er : Int) != 0) = true := by simpa using her
     have HSM := hide (show Calls Tryz.prog 13 #[.agg (cells19 h zeroM), .agg zeroMo] w4 _ from same15_ref h nilH zeroM w4 HD4.out (MD.zero w4 _))
     have HSM2 := hide (show Calls Tryz.prog 13 #[.agg #[.slice h.s 0 h.sc, .slice h.f 0 h.fc, .slice h.r 0 h.rc, .slice h.m 0 h.mc, .slice h.l 0 h.lc, .slice h.i 0 h.ic, .int .i64 0, .int .i64 0, .int .i64 0, .int .i64 0, .slice h.u 0 h.uc], .agg #[.slice none 0 0, .slice none 0 0, .slice none 0 0, .slice none 0 0, .slice none 0 0, .slice none 0 0, .int .i64 0, .int .i64 0, .int .i64 0, .int .i64 0, .slice none 0 0]] w4 _ from HSM.out)
     have c0 : w4.cell? ⟨b4, 0, none⟩ = some (.slice h.s 0 h.sc) := HK4.out.cell 0
     have c1 : w4.cell? ⟨b4, 1, none⟩ = some (.slice h.f 0 h.fc) := HK4.out.cell 1
     have c2 : w4.cell? ⟨b4, 2, none⟩ = some (.slice h.r 0 h.rc) := HK4.out.cell 2
     have c3 : w4.cell? ⟨b4, 3, none⟩ = some (.slice h.m 0 h.mc) := HK4.out.cell 3
     have c4 : w4.cell? ⟨b4, 4, none⟩ = some (.slice h.l 0 h.lc) := HK4.out.cell 4
     have c5 : w4.cell? ⟨b4, 5, none⟩ = some (.slice h.i 0 h.ic) := HK4.out.cell 5
     have c6 : w4.cell? ⟨b4, 6, none⟩ = some (.int .i64 0) := HK4.out.cell 6
     have c7 : w4.cell? ⟨b4, 7, none⟩ = some (.int .i64 0) := HK4.out.cell 7
     have c8 : w4.cell? ⟨b4, 8, none⟩ = some (.int .i64 0) := HK4.out.cell 8
     have c9 : w4.cell? ⟨b4, 9, none⟩ = some (.int .i64 0) := HK4.out.cell 9
     have c10 : w4.cell? ⟨b4, 10, none⟩ = some (.slice h.u 0 h.uc) := HK4.out.cell 10
     have cl := HK4.out.lt
     clear her hz hp0 hp1 HSM
     go_wp2_with (go_at_call 13; (with_reducible refine HSM2.out.mono ?_); rintro e w5 ⟨rfl, hb5⟩
                  have HB5 := hide (HB4.out.trans (hb5.mono HB4.out.size))
                  clear hb5)
     go_ret
     exact ⟨rfl, HB5.out⟩
   · subst her
     have HVM := hide (show validM m3 = true from (HMV.out rfl).1)
     have hl200 := decls_few HVM.out
     have HDC := hide (decls19 h m3 w4 HD4.out HD3.out.2.1 HD3.out.2.2.1 HD3.out.2.2.2 (HA.out.below (Nat.le_refl _) HB4.out) HVM.out)
     obtain ⟨a0, a1, a2, a3, a4, a5, a6, a7, a8, a9, a10⟩ := MB.cells (h := h) (m := m3) HK4.out
     have al := HK4.out.lt
     clear HME HMV
     go_upto_region 9 with (first
      | (go_at_call 16; (with_reducible refine HDC.out.mono ?_); rintro e w5 ⟨v5, L5, rfl, hO5, hL5, hb5⟩
         have HB5 := hide (HB4.out.trans (hb5.mono HB4.out.size))
         have HK5 := hide (HK4.out.below hb5 HK4.out.lt)
         have HD5 := hide (HD4.out.grow hb5)
         obtain ⟨A5, c5, rfl, _⟩ := hO5.form
         have hd5 := hO5.row.decls
         have hn5 := congrArg List.length hL5
         rw [List.length_map] at hn5
         have hmp := model_prog A5 c5 (L5.map (·.1)) w5 (HA.out.below (Nat.le_refl _) HB5.out) hd5 (by rw [List.length_map]; omega)
         rw [List.length_map, hL5, model_decls HVM.out] at hmp
         have HMP := hide hmp
         clear hb5 hO5 hL5 hd5 hn5 hmp a0 a1 a2 a3 a4 a5 a6 a7 a8 a9 a10 al)
      | (go_at_call 11; (with_reducible refine HMP.out.mono ?_); rintro e w6 ⟨h6, m6, hm6, e6, hd6, _, _, _, hb6⟩
         have hm6' : m6 = m3 := hm6
         have e6' : e = .returned (.tuple #[.agg (cells19 h6 m3), .int .i64 0, .int .i64 0]) := by rw [← hm6']; exact e6
         subst e6'
         rw [hm6'] at hd6
         have HB6 := hide (HB5.out.trans (hb6.mono HB5.out.size))
         have HK6 := hide (HK5.out.below hb6 HK5.out.lt)
         have HD6 := hide (HD5.out.grow hb6)
         have HE6 := hide hd6
         clear e6 hm6 hm6' hb6 hd6)
      | (refine wpList_store_row (o := ⟨none, .store 32 _ _, _, _, _, _⟩) rfl 32 _ _ rfl w6.heap.size (cells19 h6 m3) rfl rfl 32 zeroMo (Blk.new w6 _ _) (by kernel_rfl) rfl (cells19_one _ _) ?_; rw [World.setRow_alloc_new]))
     have hb67 : Below w6.heap.size w6 (w6.alloc (.cells (cells19 h6 m3) 32)) := (Below.refl _ _).alloc (Nat.le_refl _) _
     have HJ7 := hide (Blk.new w6 32 (cells19 h6 m3))
     obtain ⟨w7, hw7⟩ : ∃ w7, w7 = w6.alloc (.cells (cells19 h6 m3) 32) := ⟨_, rfl⟩
     obtain ⟨b7, hb7⟩ : ∃ b7, b7 = w6.heap.size := ⟨_, rfl⟩
     rw [← hw7] at hb67 HJ7 ⊢
     rw [← hb7] at HJ7 ⊢
     have HB7 := hide (HB6.out.trans (hb67.mono HB6.out.size))
     have HK7 := hide (HK6.out.below hb67 HK6.out.lt)
     have HD7 := hide (HD6.out.grow hb67)
     have HE7 := hide (HE6.out.grow hb67)
     have hv15 := valid15_ref h m3 w7 HD7.out
     rw [HVM.out] at hv15
     have HV := hide hv15
     have HSM := hide (fun W (s : Below w7.heap.size w7 W) => same15_ref h6 h m3 W (HE7.out.grow s) (HD7.out.grow s))
     obtain ⟨a0, a1, a2, a3, a4, a5, a6, a7, a8, a9, a10⟩ := MB.cells (h := h) (m := m3) HK7.out
     have al := HK7.out.lt
     clear hw7 hb7 hb67 hv15
     go_wp2_with (first
      | (go_at_call 18; (with_reducible refine HV.out.mono ?_); rintro e w8 ⟨rfl, hb8⟩
         have HB8 := hide hb8
         clear a0 a1 a2 a3 a4 a5 a6 a7 a8 a9 a10 al
         obtain ⟨a0, a1, a2, a3, a4, a5, a6, a7, a8, a9, a10⟩ := MB.cells (h := h) (m := m3) (HK7.out.below hb8 HK7.out.lt)
         have al := (HK7.out.below hb8 HK7.out.lt).lt
         obtain ⟨d0, d1, d2, d3, d4, d5, d6, d7, d8, d9, d10⟩ := MB.cells (h := h6) (m := m3) (HJ7.out.below hb8 HJ7.out.lt)
         have dl := (HJ7.out.below hb8 HJ7.out.lt).lt
         clear hb8)
      | (go_at_call 13; (with_reducible refine (HSM.out _ HB8.out).mono ?_); rintro e w9 ⟨rfl, hb9⟩
         have HB9 := hide (HB7.out.trans ((HB8.out.trans (hb9.mono HB8.out.size)).mono HB7.out.size))
         clear hb9))
     go_ret
     exact ⟨rfl, HB9.out⟩
end Go.Proofs.YtcfogipaadhbeaaGreatDoor
