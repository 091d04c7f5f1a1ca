/- A part of the claim: see its last text. -/
import Derived.Test.YtcfogipaadhbeaaGreatDoorUK04
import Derived.Test.YtcfogipaadhbeaaGreatDoorUK30
import Derived.Test.YtcfogipaadhbeaaGreatDoorUK33
import Derived.ArgAppend
import Derived.Test.YtcfogipaadhbeaaGreatDoorUK09
import Derived.Test.YtcfogipaadhbeaaGreatDoorUK03
import Derived.Test.YtcfogipaadhbeaaGreatDoorUK16
import Derived.Deep.QuietTactic
import Derived.BigQuiet
import Derived.Test.YtcfogipaadhbeaaGreatDoorUK02
import Derived.Shelf.SlicesE.Kit
import Derived.Laws.StructEq

set_option maxRecDepth 100000
set_option maxHeartbeats 16000000
namespace Go.Proofs.YtcfogipaadhbeaaGreatDoor
open Go Go.RowKit Go.Proofs
theorem append_declsF {ops : Array Oper} {rest : List Oper} {o : Oper} {a : Act} {Q : Exit → Act → World → Prop} {w : World} (hgd : o.guard = none) (s x : Operand)
    (ho : o.op = .call { callee := .builtin .append, args := #[s, x], argTypes := #[22, 22] })
    (B g cap : Nat) (L : List DV) (hs : a.eval s = .slice (some ⟨g, 0, none⟩) L.length cap) (hown : OutD B w (.slice (some ⟨g, 0, none⟩) L.length cap) L)
    (B2 : Nat) (ad : Addr) (c : Nat) (y : DV) (hx : a.eval x = .slice (some ad) 1 c) (hr : Reads w B2 6 (some ad) 1 ([y].flatMap cellsD)) (h1 : y.2.1.oneCell' = true ∧ y.2.2.oneCell' = true)
    (hfull : cap < L.length + 1) (hlen : L.length ≤ 1000)
    (h : ∀ v' w', w'.ownsRow w.heap.size 43 6 v' (L ++ [y]).length ((L ++ [y]).flatMap cellsD) → Below w.heap.size w w' → wpList Tryz.prog ops Q rest (a.put o.dst v') w') : wpList Tryz.prog ops Q (o :: rest) a w := by
 obtain ⟨i0, hi, hz0, hz1, hz2⟩ := info_parts infoD
 have hR := Reads.of_own hown.1
 refine wpList_append_grows w hgd s x 22 ho 43 i0 _ 6 88 Tryz.underlying22 hi hz0 hz1 hz2 rfl (by omega) _ L.length cap (L.flatMap cellsD) hs (by simp) hR.1 ?_ ad 1 c _ hx hr.1 ?_ ?_ hfull (by unfold maxLen; omega) (by omega) fun v' w' h3 h4 => h v' w' ?_ ?_
 · intro b hb j u hu
   obtain rfl := Option.some.inj hb
   rcases Nat.eq_zero_or_pos L.length with h0 | h0
   · have : L = [] := List.eq_nil_of_length_eq_zero h0
     subst this
     simp at hu
   · obtain ⟨ad2, e2, _, hc⟩ := hR.2 h0
     obtain rfl := Option.some.inj e2
     exact hc j u hu
 · intro j u hu
   obtain ⟨ad2, e2, _, hc⟩ := hr.2 (by omega)
   obtain rfl := Option.some.inj e2
   exact hc j u hu
 · intro u hu
   simp [cellsD] at hu
   rcases hu with rfl | rfl | rfl | rfl | rfl | rfl
   · rfl
   · rfl
   · exact h1.1
   · exact h1.2
   · rfl
   · rfl
 · rw [List.flatMap_append, List.length_append]; exact h3
 · exact (Below.refl _ _).grown h4 (Nat.le_refl _) (fun k hk => by cases hk)
theorem OutD.more1 {B B2 : Nat} {w w' : World} {v v' : Value} {L : List DV} {d : Decl} {ra na : Option Addr} {rc nc : Nat} (h : OutD B w v L) (hb : Below w.heap.size w w') (hB : B ≤ B2) (hO : OwnS B w' (.slice ra d.refs.length rc) d.refs) (hI : OwnI B w' (.slice na d.nums.length nc) d.nums)
    (hz : d.name.size ≤ 16384 ∧ ∀ r ∈ d.refs, r.size ≤ 16384)
    (h3 : w'.ownsRow B2 43 6 v' (L ++ [((d, .slice ra d.refs.length rc, .slice na d.nums.length nc) : DV)]).length ((L ++ [((d, .slice ra d.refs.length rc, .slice na d.nums.length nc) : DV)]).flatMap cellsD)) : OutD B w' v' (L ++ [(d, .slice ra d.refs.length rc, .slice na d.nums.length nc)]) := by
 have h2 := h.below hb
 refine ⟨own_lowerD h3 hB, fun y hy => ?_⟩
 rcases List.mem_append.1 hy with hy | hy
 · exact h2.2 y hy
 · rw [List.mem_singleton.1 hy]
   exact ⟨hO, hI, hz⟩
def cells19 (h : MH) (m : Mod) : Array Value := #[.slice h.s m.sT.length h.sc, .slice h.f m.fT.length h.fc, .slice h.r m.rT.length h.rc, .slice h.m m.mT.length h.mc, .slice h.l m.lT.length h.lc, .slice h.i m.iT.length h.ic, .int .i64 m.dT, .int .i64 m.oT, .int .i64 m.vT, .int .i64 m.aT, .slice h.u m.uT.length h.uc]
theorem cells19_one (h : MH) (m : Mod) : (cells19 h m).all (·.oneCell') = true := by simp [cells19, Value.oneCell']
theorem awake19 (w : World) (ha : Asc w) : Calls Tryz.prog 9 #[] w (AnsR w (.bool true)) := by
 have HE := hide (example19 w)
 have HA := hide ha
 clear ha
 go_enter Tryz.func9, Tryz.ntmps9
 go_upto_region 2 with (go_at_call 22; refine HE.out.mono ?_; rintro e w1 ⟨g, v1, L1, rfl, rfl, hO1, hL1, hb1⟩)
 have hl6 : L1.length = 6 := by have := congrArg List.length hL1; simpa [exL] using this
 have hm1 := model_prog (some ⟨g, 0, none⟩) 6 (L1.map (·.1)) w1 (HA.out.below (Nat.le_refl _) hb1) hO1.row.decls (by simp [hl6])
 rw [List.length_map, hL1, ex_model] at hm1
 have HM := hide hm1
 have HO1 := hide hO1
 have HB1 := hide hb1
 have HL1 := hide hL1
 have HL6 := hide hl6
 clear hm1 hO1 hb1 hL1 hl6 HE
 go_upto_region 3 with (first
  | (go_at_call 11; refine HM.out.mono ?_; rintro e w2 ⟨h, m, hm, e2, hd2, hk1, hk2, hk3, hb2⟩
     have e2' : e = .returned (.tuple #[.agg (cells19 h m), .int .i64 0, .int .i64 0]) := e2
     subst e2'
     have HMM := hide hm
     have HD2 := hide (And.intro hd2 (And.intro hk1 (And.intro hk2 hk3)))
     have HB2 := hide hb2
     clear e2 hm hd2 hk1 hk2 hk3 hb2)
  | (refine wpList_store_row (o := ⟨none, .store 32 _ _, _, _, _, _⟩) rfl 32 _ _ rfl w2.heap.size (cells19 h m) rfl rfl 32 zeroMo (Blk.new w2 _ _) (by kernel_rfl) rfl (cells19_one _ _) ?_; rw [World.setRow_alloc_new]))
 have hb23 : Below w2.heap.size w2 (w2.alloc (.cells (cells19 h m) 32)) := (Below.refl _ _).alloc (Nat.le_refl _) _
 have HK3 := hide (Blk.new w2 32 (cells19 h m))
 obtain ⟨w3, hw3⟩ : ∃ w3, w3 = w2.alloc (.cells (cells19 h m) 32) := ⟨_, rfl⟩
 obtain ⟨bm, hbm⟩ : ∃ bm, bm = w2.heap.size := ⟨_, rfl⟩
 rw [← hw3] at hb23 HK3 ⊢
 rw [← hbm] at HK3 ⊢
 have HB3 := hide (show Below w1.heap.size w1 w3 from HB2.out.trans (hb23.mono HB2.out.size))
 have HO3 := hide (HO1.out.below HB3.out)
 have HD3 := hide (HD2.out.1.grow hb23)
 clear hw3 hbm hb23
 have HX := hide ((Below.refl w3.heap.size w3).alloc (Nat.le_refl _) (.cells #[.int .i64 0, .string (⟨#[109]⟩ : ByteArray), .slice none 0 0, .slice none 0 0, .int .i64 0, .bool false] 43))
 go_upto_region 4 with (first
  | (at_builtin
     refine append_declsF rfl _ _ rfl w.heap.size g 6 L1 rfl (HO3.out.below HX.out) _ _ 1 (⟨0, (⟨#[109]⟩ : ByteArray), [], [], 0, false⟩, .slice none 0 0, .slice none 0 0) rfl (newD w3 ⟨0, (⟨#[109]⟩ : ByteArray), [], [], 0, false⟩ none none 0 0 rfl) ⟨rfl, rfl⟩ (by have := HL6.out; omega) (by have := HL6.out; omega) ?_
     intro v4 w4 hr4 hb4
     have hO4 := OutD.more1 (HO3.out.below HX.out) hb4 (by have := HB1.out.size; have := HB3.out.size; simp; omega) (OwnS.nil_ _ _) (OwnI.nil_ _ _) ⟨by decide, by simp⟩ hr4
     have HB4 := hide (HX.out.trans (hb4.mono (by simp)))
     obtain ⟨L2, hL2⟩ : ∃ L2, L2 = L1 ++ [((⟨0, (⟨#[109]⟩ : ByteArray), [], [], 0, false⟩, .slice none 0 0, .slice none 0 0) : DV)] := ⟨_, rfl⟩
     have hM2 : L2.map (·.1) = exL ++ [⟨0, (⟨#[109]⟩ : ByteArray), [], [], 0, false⟩] := by rw [hL2, List.map_append, HL1.out]; rfl
     have hl7 : L2.length = 7 := by rw [hL2]; simp [HL6.out]
     obtain ⟨A4, c4, hv4, _⟩ := hO4.form
     have hv5 : v4 = .slice A4 L2.length c4 := by rw [hL2]; exact hv4
     have hO5 : OutD w.heap.size w4 (.slice A4 L2.length c4) L2 := by rw [← hv5, hL2]; exact hO4
     clear hr4 hO4 hv4
     subst hv5
     have hm4 := model_prog A4 c4 (L2.map (·.1)) w4 (HA.out.below (Nat.le_refl _) (HB1.out.trans ((HB3.out.trans (HB4.out.mono HB3.out.size)).mono HB1.out.size))) hO5.row.decls (by simp [hl7])
     rw [List.length_map, hM2, ex_twice] at hm4
     have HM4 := hide hm4
     clear hm4 hO5 hb4 hL2 hM2 hl7)
  | (go_at_call 11; refine HM4.out.mono ?_; rintro e w5 ⟨h5, m5, hm5, e5, _, _, _, _, hb5⟩
     have e5' : e = .returned (.tuple #[.agg (cells19 h5 m5), .int .i64 6, .int .i64 5]) := e5
     subst e5'
     have HB5 := hide (HB4.out.trans (hb5.mono HB4.out.size))
     clear e5 hm5 hb5)
  | (refine wpList_store_row (o := ⟨none, .store 32 _ _, _, _, _, _⟩) rfl 32 _ _ rfl w5.heap.size (cells19 h5 m5) rfl rfl 32 zeroMo (Blk.new w5 _ _) (by kernel_rfl) rfl (cells19_one _ _) ?_; rw [World.setRow_alloc_new]))
 have hb56 : Below w5.heap.size w5 (w5.alloc (.cells (cells19 h5 m5) 32)) := (Below.refl _ _).alloc (Nat.le_refl _) _
 obtain ⟨w6, hw6⟩ : ∃ w6, w6 = w5.alloc (.cells (cells19 h5 m5) 32) := ⟨_, rfl⟩
 rw [← hw6] at hb56 ⊢
 have HB6 := hide (HB5.out.trans (hb56.mono HB5.out.size))
 have HK6 := hide (HK3.out.below HB6.out HK3.out.lt)
 have HD6 := hide (HD3.out.grow HB6.out)
 have HBW := hide (HB1.out.trans ((HB3.out.trans (HB6.out.mono HB3.out.size)).mono HB1.out.size))
 clear hw6 hb56
 have hdc := decls19 h m w6 HD6.out HD2.out.2.1 HD2.out.2.2.1 HD2.out.2.2.2 (HA.out.below (Nat.le_refl _) HBW.out) (by rw [HMM.out]; exact ex_valid)
 have hmm : m.sT.length = 1 ∧ m.fT.length = 1 ∧ m.rT.length = 1 ∧ m.mT.length = 1 ∧ m.iT.length = 1 ∧ (declsM m).length = 6 := by rw [HMM.out]; decide
 obtain ⟨n1, n2, n3, n4, n5, n6⟩ := hmm
 have hki : (m.iT[0]'(by omega)).kind = 2 := by have := HMM.out; subst this; rfl
 obtain ⟨b, off, A2, c2, hA, hb, y0, y1, hrest⟩ := HD6.out.dI.item (i := 0) (by omega)
 rw [hki] at y1
 have HDC := hide hdc
 have HN6 := hide n6
 have MB6 : Blk w6 bm 32 #[.slice h.s m.sT.length h.sc, .slice h.f m.fT.length h.fc, .slice h.r m.rT.length h.rc, .slice h.m m.mT.length h.mc, .slice h.l m.lT.length h.lc, .slice h.i m.iT.length h.ic, .int .i64 m.dT, .int .i64 m.oT, .int .i64 m.vT, .int .i64 m.aT, .slice h.u m.uT.length h.uc] := HK6.out
 obtain ⟨a0, a1, a2, a3, a4, a5, a6, a7, a8, a9, a10⟩ := MB.cells MB6
 have al := MB6.lt
 have HDC2 := hide (show Calls Tryz.prog 16 #[.agg #[.slice h.s m.sT.length h.sc, .slice h.f m.fT.length h.fc, .slice h.r m.rT.length h.rc, .slice h.m m.mT.length h.mc, .slice h.l m.lT.length h.lc, .slice h.i m.iT.length h.ic, .int .i64 m.dT, .int .i64 m.oT, .int .i64 m.vT, .int .i64 m.aT, .slice h.u m.uT.length h.uc]] w6 _ from HDC.out)
 rw [hA] at a5
 rw [hA] at HDC2
 have z1 : ((m.sT.length : Int) == 1) = true := by rw [n1]; rfl
 have z2 : ((m.fT.length : Int) == 1) = true := by rw [n2]; rfl
 have z3 : ((m.rT.length : Int) == 1) = true := by rw [n3]; rfl
 have z4 : ((m.mT.length : Int) == 1) = true := by rw [n4]; rfl
 have z5 : ((m.iT.length : Int) == 1) = true := by rw [n5]; rfl
 have z6 : 0 < m.iT.length := by omega
 have z7 : (0 : Int) < (m.iT.length : Int) := by omega
 clear hrest y0
 clear hdc hki n1 n2 n3 n4 n5 n6 hA MB6 HDC
 go_wp2_with (go_at_call 16; (with_reducible refine HDC2.out.mono ?_); rintro e w7 ⟨v7, L7, rfl, hO7, hL7, hb7⟩
              obtain ⟨A7, c7, rfl, _⟩ := hO7.form
              have z8 : ((L7.length : Int) == 6) = true := by have := congrArg List.length hL7; rw [HN6.out] at this; simp at this; rw [this]; rfl
              have HB7 := hide hb7
              clear hO7 hL7 hb7)
 go_ret
 exact ⟨by rfl, HBW.out.trans (HB7.out.mono HBW.out.size)⟩
structure FewL (m : Mod) : Prop where
 ls : m.sT.length ≤ 24
 lf : m.fT.length ≤ 24
 lr : m.rT.length ≤ 24
 lm : m.mT.length ≤ 24
 li : m.iT.length ≤ 24
 lu : m.uT.length ≤ 48
def FewB (m : Mod) (w : World) (e : Ending) (w' : World) : Prop := (∃ b : Bool, e = .returned (.bool b) ∧ (b = true → FewL m)) ∧ Below w.heap.size w w'
theorem few22_ref (h : MH) (m : Mod) (w : World) (d : MD w w.heap.size h m) :
    Calls Tryz.prog 14 #[.agg #[.slice h.s m.sT.length h.sc, .slice h.f m.fT.length h.fc, .slice h.r m.rT.length h.rc, .slice h.m m.mT.length h.mc, .slice h.l m.lT.length h.lc, .slice h.i m.iT.length h.ic, .int .i64 m.dT, .int .i64 m.oT, .int .i64 m.vT, .int .i64 m.aT, .slice h.u m.uT.length h.uc]] w (FewB m w) := by
 have l0 := d.sl
 have l1 := d.fl
 have l2 := d.rl
 have l3 := d.ml
 have l5 := d.il
 have l6 := d.ul
 have D := hide d; clear d
 by_cases hbad : 24 < m.sT.length ∨ 24 < m.fT.length ∨ 24 < m.rT.length ∨ 24 < m.mT.length ∨ 24 < m.lT.length ∨ 24 < m.iT.length ∨ 48 < m.uT.length
 · clear l0 l1 l2 l3 l5 l6 D
   rcases hbad with q | q | q | q | q | q | q
   all_goals
    go_enter Tryz.func14, Tryz.ntmps14
    go_wp2_with fail
    all_goals
     go_ret
     exact ⟨⟨false, rfl, fun e => absurd e (by simp)⟩, (Below.refl _ _).alloc (Nat.le_refl _) _⟩
 · obtain ⟨q0, q1, q2, q3, q4, q5, q6⟩ : ¬ 24 < m.sT.length ∧ ¬ 24 < m.fT.length ∧ ¬ 24 < m.rT.length ∧ ¬ 24 < m.mT.length ∧ ¬ 24 < m.lT.length ∧ ¬ 24 < m.iT.length ∧ ¬ 48 < m.uT.length := by omega
   have HQ := hide (show FewL m from ⟨by omega, by omega, by omega, by omega, by omega, by omega⟩)
   clear hbad
   go_enter Tryz.func14, Tryz.ntmps14
   go_wp2_with fail
   clear q0 q1 q2 q3 q4 q5 q6
   go_loopw [3, 4] (fun v i wr => ∃ (k : Nat) (n : Int), k ≤ m.sT.length ∧ i = .int .i64 k ∧ v = .int .i64 n ∧ Hid (MW w w.heap.size wr h m)) (fun _ i _ => m.sT.length - (intOf i).toNat)
   case atStart => exact ⟨0, _, Nat.zero_le _, rfl, rfl, MW.start w h m⟩
   case round =>
    obtain ⟨k, n, hk, rfl, rfl, hW⟩ := hrel
    obtain ⟨a0, a1, a2, a3, a4, a5, a6, a7, a8, a9, a10⟩ := MB.cells hW.out.blk
    have hL1 := hW.out.lt
    clear a1 a2 a3 a4 a5 a6 a7 a8 a9 a10
    by_cases hlt : k < m.sT.length
    · obtain ⟨b, off, hA, hb, x0⟩ := str_at (hW.out.md D.out).dS hlt
      rw [hA] at a0
      clear hA
      have hsz : m.sT[k].size ≤ 9223372036854775807 := D.out.sf _ (List.getElem_mem _)
      go_wp2_with fail
      all_goals
       go_roundw
       case rel => exact ⟨k + 1, _, by omega, by go_num, rfl, hW⟩
       case measure => simp [intOf]; omega
    · go_wp2_with fail
      go_loopw [3, 5] (fun v i wr => ∃ (k : Nat) (n : Int), k ≤ m.fT.length ∧ i = .int .i64 k ∧ v = .int .i64 n ∧ Hid (MW w w.heap.size wr h m)) (fun _ i _ => m.fT.length - (intOf i).toNat)
      case atStart => exact ⟨0, _, Nat.zero_le _, rfl, rfl, hW⟩
      case round =>
       clear hW hL1 a0
       obtain ⟨k, n, hk, rfl, rfl, hW⟩ := hrel
       obtain ⟨a0, a1, a2, a3, a4, a5, a6, a7, a8, a9, a10⟩ := MB.cells hW.out.blk
       have hL1 := hW.out.lt
       clear a0 a2 a3 a4 a5 a6 a7 a8 a9 a10
       by_cases hlt : k < m.fT.length
       · obtain ⟨b, off, hA, hb, x0⟩ := str_at (hW.out.md D.out).dF hlt
         rw [hA] at a1
         clear hA
         have hsz : m.fT[k].size ≤ 9223372036854775807 := D.out.ff _ (List.getElem_mem _)
         go_wp2_with fail
         all_goals
          go_roundw
          case rel => exact ⟨k + 1, _, by omega, by go_num, rfl, hW⟩
          case measure => simp [intOf]; omega
       · go_wp2_with fail
         go_loopw [3, 6] (fun v i wr => ∃ (k : Nat) (n : Int), k ≤ m.rT.length ∧ i = .int .i64 k ∧ v = .int .i64 n ∧ Hid (MW w w.heap.size wr h m)) (fun _ i _ => m.rT.length - (intOf i).toNat)
         case atStart => exact ⟨0, _, Nat.zero_le _, rfl, rfl, hW⟩
         case round =>
          clear hW hL1 a1
          obtain ⟨k, n, hk, rfl, rfl, hW⟩ := hrel
          obtain ⟨a0, a1, a2, a3, a4, a5, a6, a7, a8, a9, a10⟩ := MB.cells hW.out.blk
          have hL1 := hW.out.lt
          clear a0 a1 a3 a4 a5 a6 a7 a8 a9 a10
          by_cases hlt : k < m.rT.length
          · obtain ⟨b, off, hA, hb, x0, x1, x2, hsz⟩ := (hW.out.md D.out).dR.rack hlt
            rw [hA] at a2
            clear hA
            go_wp2_with fail
            all_goals
             go_roundw
             case rel => exact ⟨k + 1, _, by omega, by go_num, rfl, hW⟩
             case measure => simp [intOf]; omega
          · go_wp2_with fail
            go_loopw [3, 7] (fun v i wr => ∃ (k : Nat) (n : Int), k ≤ m.mT.length ∧ i = .int .i64 k ∧ v = .int .i64 n ∧ Hid (MW w w.heap.size wr h m)) (fun _ i _ => m.mT.length - (intOf i).toNat)
            case atStart => exact ⟨0, _, Nat.zero_le _, rfl, rfl, hW⟩
            case round =>
             clear hW hL1 a2
             obtain ⟨k, n, hk, rfl, rfl, hW⟩ := hrel
             obtain ⟨a0, a1, a2, a3, a4, a5, a6, a7, a8, a9, a10⟩ := MB.cells hW.out.blk
             have hL1 := hW.out.lt
             clear a0 a1 a2 a4 a5 a6 a7 a8 a9 a10
             by_cases hlt : k < m.mT.length
             · obtain ⟨b, off, hA, hb, x0, x1, x2, hsz⟩ := (hW.out.md D.out).dM.mach hlt
               rw [hA] at a3
               clear hA
               go_wp2_with fail
               all_goals
                go_roundw
                case rel => exact ⟨k + 1, _, by omega, by go_num, rfl, hW⟩
                case measure => simp [intOf]; omega
             · go_wp2_with fail
               go_loopw [3, 8] (fun v i wr => ∃ (k : Nat) (n : Int), k ≤ m.iT.length ∧ i = .int .i64 k ∧ v = .int .i64 n ∧ Hid (MW w w.heap.size wr h m)) (fun _ i _ => m.iT.length - (intOf i).toNat)
               case atStart => exact ⟨0, _, Nat.zero_le _, rfl, rfl, hW⟩
               case round =>
                clear hW hL1 a3
                obtain ⟨k, n, hk, rfl, rfl, hW⟩ := hrel
                obtain ⟨a0, a1, a2, a3, a4, a5, a6, a7, a8, a9, a10⟩ := MB.cells hW.out.blk
                have hL1 := hW.out.lt
                clear a0 a1 a2 a3 a4 a6 a7 a8 a9 a10
                by_cases hlt : k < m.iT.length
                · obtain ⟨b, off, A2, c2, hA, hb, x0, x1, x2, x3, x4, x5, x6, hsz, _⟩ := (hW.out.md D.out).dI.item hlt
                  rw [hA] at a5
                  clear hA
                  have hltI : (k : Int) < (m.iT.length : Int) := by omega
                  go_wp2_with fail
                  go_quiet (fail)
                  go_wp2_with fail
                  all_goals
                   go_roundw
                   case rel => exact ⟨k + 1, _, by omega, by go_num, rfl, hide (hW.out.drewN _)⟩
                   case measure => simp [intOf]; omega
                · go_wp2_with fail
                  go_loopw [3, 9] (fun v i wr => ∃ (k : Nat) (n : Int), k ≤ m.uT.length ∧ i = .int .i64 k ∧ v = .int .i64 n ∧ Hid (MW w w.heap.size wr h m)) (fun _ i _ => m.uT.length - (intOf i).toNat)
                  case atStart => exact ⟨0, _, Nat.zero_le _, rfl, rfl, hW⟩
                  case round =>
                   clear hW hL1 a5
                   obtain ⟨k, n, hk, rfl, rfl, hW⟩ := hrel
                   obtain ⟨a0, a1, a2, a3, a4, a5, a6, a7, a8, a9, a10⟩ := MB.cells hW.out.blk
                   have hL1 := hW.out.lt
                   clear a0 a1 a2 a3 a4 a5 a6 a7 a8 a9
                   by_cases hlt : k < m.uT.length
                   · obtain ⟨b, off, A2, c2, hA, hb, x0, x1, x2, x3, x4, x5, x6, _⟩ := (hW.out.md D.out).dU.rule hlt
                     rw [hA] at a10
                     clear hA
                     go_wp2_with fail
                     all_goals
                      go_roundw
                      case rel => exact ⟨k + 1, _, by omega, by go_num, rfl, hW⟩
                      case measure => simp [intOf]; omega
                   · go_wp2_with fail
                     go_ret
                     exact ⟨⟨_, rfl, fun _ => HQ.out⟩, hW.out.b⟩
theorem texts_ref (A1 A2 : Option Addr) (c1 c2 : Nat) (l m : List ByteArray) (w : World) (h1 : Strs w w.heap.size A1 l) (h2 : Strs w w.heap.size A2 m) (hl : l.length ≤ 9223372036854775807) (_hm : m.length ≤ 9223372036854775807) :
    Calls Tryz.prog 32 #[.slice A1 l.length c1, .slice A2 m.length c2] w fun e w' => e = .returned (.bool (decide (l = m))) ∧ Below w.heap.size w w' := by
 by_cases hlen : l.length = m.length
 rotate_left
 · have HS := hide (show decide (l = m) = false by simp; intro h; exact hlen (by rw [h]))
   have hne : ((l.length : Int) == (m.length : Int)) = false := by simp; omega
   have hne2 : ((l.length : Int) != (m.length : Int)) = true := by simp [bne, hne]
   go_enter Tryz.func32, Tryz.ntmps32
   go_wp2
   go_ret
   exact ⟨ret_congr (by rw [HS.out]; rfl), Below.refl _ _⟩
 · have HL := hide hlen
   have hne2 : ((l.length : Int) != (m.length : Int)) = false := by simp [bne, hlen]
   clear hlen
   go_enter Tryz.func32, Tryz.ntmps32
   go_wp2_with fail
   go_loopw [5] (fun i wr => ∃ k : Nat, k ≤ l.length ∧ i = .int .i64 k ∧ Below w.heap.size w wr ∧ Hid (∀ j (q1 : j < l.length) (q2 : j < m.length), j < k → l[j] = m[j])) (fun i _ => l.length - (intOf i).toNat)
   case atStart => exact ⟨0, Nat.zero_le _, rfl, Below.refl _ _, fun j _ _ h0 => absurd h0 (by omega)⟩
   case round =>
    obtain ⟨k, hk, rfl, hbr, hs⟩ := hrel
    by_cases hlt : k < l.length
    · have hlt2 : k < m.length := by rw [← HL.out]; exact hlt
      have hltI : (k : Int) < (l.length : Int) := by omega
      have hlt2I : (k : Int) < (m.length : Int) := by omega
      obtain ⟨ad1, rfl, hb1, x0⟩ := (h1.below hbr).at_ hlt
      obtain ⟨ad2, rfl, hb2, y0⟩ := (h2.below hbr).at_ hlt2
      by_cases he : l[k] = m[k]
      · have hq := toList_beq_true he
        have HE := hide he; clear he
        go_wp2_with fail
        go_quiet (fail)
        go_wp2_with fail
        go_roundw
        case rel => exact ⟨k + 1, by omega, by go_num, below_drawn hbr _, fun j q1 q2 h1 => by
         rcases Nat.lt_or_ge j k with h2 | h2
         · exact hs j q1 q2 h2
         · obtain rfl : j = k := by omega
           exact HE.out⟩
        case measure => simp [intOf]; omega
      · have HS := hide (show decide (l = m) = false by simp; intro h; exact he (by simp [h]))
        have hq := toList_beq_false he
        clear he
        go_wp2_with fail
        go_quiet (fail)
        go_wp2_with fail
        go_ret
        exact ⟨ret_congr (by rw [HS.out]; rfl), below_drawn hbr _⟩
    · go_wp2_with fail
      go_ret
      have : l = m := List.ext_getElem HL.out fun j q1 q2 => hs.out j q1 q2 (by omega)
      exact ⟨ret_congr (by simp [this]), hbr⟩
theorem ints_ref (A1 A2 : Option Addr) (c1 c2 : Nat) (l m : List Int) (w : World) (h1 : Ints w w.heap.size A1 l) (h2 : Ints w w.heap.size A2 m) (hl : l.length ≤ 9223372036854775807) (_hm : m.length ≤ 9223372036854775807) :
    Calls Tryz.prog 33 #[.slice A1 l.length c1, .slice A2 m.length c2] w fun e w' => e = .returned (.bool (decide (l = m))) ∧ Below w.heap.size w w' := by
 by_cases hlen : l.length = m.length
 rotate_left
 · have HS := hide (show decide (l = m) = false by simp; intro h; exact hlen (by rw [h]))
   have hne : ((l.length : Int) == (m.length : Int)) = false := by simp; omega
   have hne2 : ((l.length : Int) != (m.length : Int)) = true := by simp [bne, hne]
   go_enter Tryz.func33, Tryz.ntmps33
   go_wp2
   go_ret
   exact ⟨ret_congr (by rw [HS.out]; rfl), Below.refl _ _⟩
 · have HL := hide hlen
   have hne2 : ((l.length : Int) != (m.length : Int)) = false := by simp [bne, hlen]
   clear hlen
   go_enter Tryz.func33, Tryz.ntmps33
   go_wp2_with fail
   go_loopw [5] (fun i wr => ∃ k : Nat, k ≤ l.length ∧ i = .int .i64 k ∧ Below w.heap.size w wr ∧ Hid (∀ j (q1 : j < l.length) (q2 : j < m.length), j < k → l[j] = m[j])) (fun i _ => l.length - (intOf i).toNat)
   case atStart => exact ⟨0, Nat.zero_le _, rfl, Below.refl _ _, fun j _ _ h0 => absurd h0 (by omega)⟩
   case round =>
    obtain ⟨k, hk, rfl, hbr, hs⟩ := hrel
    by_cases hlt : k < l.length
    · have hlt2 : k < m.length := by rw [← HL.out]; exact hlt
      have hltI : (k : Int) < (l.length : Int) := by omega
      have hlt2I : (k : Int) < (m.length : Int) := by omega
      obtain ⟨ad1, rfl, hb1, x0⟩ := (h1.below hbr).at_ hlt
      obtain ⟨ad2, rfl, hb2, y0⟩ := (h2.below hbr).at_ hlt2
      by_cases he : l[k] = m[k]
      · have hq : (l[k] == m[k]) = true := by simp [he]
        have hq2 : (l[k] != m[k]) = false := by simp [he]
        have HE := hide he; clear he
        go_wp2_with fail
        go_quiet (fail)
        go_wp2_with fail
        go_roundw
        case rel => exact ⟨k + 1, by omega, by go_num, below_drawn hbr _, fun j q1 q2 h1 => by
         rcases Nat.lt_or_ge j k with h2 | h2
         · exact hs j q1 q2 h2
         · obtain rfl : j = k := by omega
           exact HE.out⟩
        case measure => simp [intOf]; omega
      · have HS := hide (show decide (l = m) = false by simp; intro h; exact he (by simp [h]))
        have hq : (l[k] == m[k]) = false := by simpa using he
        have hq2 : (l[k] != m[k]) = true := by simpa using he
        clear he
        go_wp2_with fail
        go_quiet (fail)
        go_wp2_with fail
        go_ret
        exact ⟨ret_congr (by rw [HS.out]; rfl), below_drawn hbr _⟩
    · go_wp2_with fail
      go_ret
      have : l = m := List.ext_getElem HL.out fun j q1 q2 => hs.out j q1 q2 (by omega)
      exact ⟨ret_congr (by simp [this]), hbr⟩
theorem eq_rack (s : ByteArray) (a b : Int) (w : World) : (Op.equalIn 10000 69 (.agg #[.string s, .int .i64 a, .int .i64 b]) (.agg #[.string s, .int .i64 a, .int .i64 b])).run Tryz.prog w = .ok true w := by
 have u3 := Tryz.underlying3
 have a3 := Tryz.isAgg3
 have z3 := Tryz.sizeOf3
 have u9 := Tryz.underlying9
 have a9 := Tryz.isAgg9
 have z9 := Tryz.sizeOf9
 have hS : Tryz.prog.underlying 69 = some (.struct (Tryz.prog.fieldsOf 69)) := by kernel_rfl
 have hp : Tryz.prog.stoodInHeld 69 = false := by kernel_rfl
 rw [show (10000 : Nat) = 9999 + 1 from rfl, run_equalIn_agg w 9999 69 _ _ hS hp]
 simp only [Program.fieldsOf, Tryz.underlying69]
 go_simp
theorem eq_mach (s : ByteArray) (a b : Int) (w : World) : (Op.equalIn 10000 71 (.agg #[.string s, .int .i64 a, .int .i64 b]) (.agg #[.string s, .int .i64 a, .int .i64 b])).run Tryz.prog w = .ok true w := by
 have u3 := Tryz.underlying3
 have a3 := Tryz.isAgg3
 have z3 := Tryz.sizeOf3
 have u9 := Tryz.underlying9
 have a9 := Tryz.isAgg9
 have z9 := Tryz.sizeOf9
 have hS : Tryz.prog.underlying 71 = some (.struct (Tryz.prog.fieldsOf 71)) := by kernel_rfl
 have hp : Tryz.prog.stoodInHeld 71 = false := by kernel_rfl
 rw [show (10000 : Nat) = 9999 + 1 from rfl, run_equalIn_agg w 9999 71 _ _ hS hp]
 simp only [Program.fieldsOf, Tryz.underlying71]
 go_simp
theorem eq_link (s a b : Int) (w : World) : (Op.equalIn 10000 73 (.agg #[.int .i64 s, .int .i64 a, .int .i64 b]) (.agg #[.int .i64 s, .int .i64 a, .int .i64 b])).run Tryz.prog w = .ok true w := by
 have u3 := Tryz.underlying3
 have a3 := Tryz.isAgg3
 have z3 := Tryz.sizeOf3
 have hS : Tryz.prog.underlying 73 = some (.struct (Tryz.prog.fieldsOf 73)) := by kernel_rfl
 have hp : Tryz.prog.stoodInHeld 73 = false := by kernel_rfl
 rw [show (10000 : Nat) = 9999 + 1 from rfl, run_equalIn_agg w 9999 73 _ _ hS hp]
 simp only [Program.fieldsOf, Tryz.underlying73]
 go_simp
theorem sameRule19 (x : RuleM) (A1 A2 : Option Addr) (c1 c2 : Nat) (w : World) (h1 : Ints w w.heap.size A1 x.machines) (h2 : Ints w w.heap.size A2 x.machines) (hl : x.machines.length ≤ 9223372036854775807) :
    Calls Tryz.prog 34 #[.agg #[.int .i64 x.kind, .int .i64 x.item, .int .i64 x.other, .int .i64 x.n, .int .i64 x.by_, .bool x.always, .slice A1 x.machines.length c1], .agg #[.int .i64 x.kind, .int .i64 x.item, .int .i64 x.other, .int .i64 x.n, .int .i64 x.by_, .bool x.always, .slice A2 x.machines.length c2]] w fun e w' => e = .returned (.bool true) ∧ Below w.heap.size w w' := by
 have hb := ((Below.refl w.heap.size w).alloc (Nat.le_refl _) (.cells #[.int .i64 x.kind, .int .i64 x.item, .int .i64 x.other, .int .i64 x.n, .int .i64 x.by_, .bool x.always, .slice A1 x.machines.length c1] 62)).alloc (by simp) (.cells #[.int .i64 x.kind, .int .i64 x.item, .int .i64 x.other, .int .i64 x.n, .int .i64 x.by_, .bool x.always, .slice A2 x.machines.length c2] 62)
 have hi := ints_ref A1 A2 c1 c2 x.machines x.machines _ (h1.grow hb) (h2.grow hb) hl hl
 rw [show decide (x.machines = x.machines) = true by simp] at hi
 have HI := hide hi
 have HB := hide hb
 clear hb hi h1 h2 hl
 go_enter Tryz.func34, Tryz.ntmps34
 go_wp2_with (go_at_call 33; refine HI.out.mono ?_; rintro e w1 ⟨rfl, hb1⟩; have HB1 := hide hb1; clear hb1)
 go_ret
 exact ⟨rfl, HB.out.trans (HB1.out.mono HB.out.size)⟩
end Go.Proofs.YtcfogipaadhbeaaGreatDoor
