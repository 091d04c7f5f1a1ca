/- A part of the claim: see its last text. -/
import Derived.Test.YtcfogipaadhbeaaGreatDoorUK14
import Derived.Test.YtcfogipaadhbeaaGreatDoorUK20
import Derived.Test.YtcfogipaadhbeaaGreatDoorUK29

set_option maxRecDepth 100000
set_option maxHeartbeats 16000000
namespace Go.Proofs.YtcfogipaadhbeaaGreatDoor
open Go Go.RowKit Go.Proofs
def zeroMo : Array Value := #[.slice none 0 0, .slice none 0 0, .slice none 0 0, .slice none 0 0, .slice none 0 0, .slice none 0 0, .int .i64 0, .int .i64 0, .int .i64 0, .int .i64 0, .slice none 0 0]
theorem mod_cells {W : World} {g : Nat} {T : TypeId} (h : Blk W g T zeroMo) : ∀ i, i < 11 → (∃ u, W.cell? ⟨g, i, none⟩ = some u) ∧ W.frozen? ⟨g, i, none⟩ = false := fun i hi => ⟨by rw [h.cell i]; exact ⟨_, Array.getElem?_eq_getElem (by simpa [zeroMo] using hi)⟩, h.frozen i⟩
theorem ret_mod {fn : Func} {p u v : Tmp} (hr : fn.results = #[.cell p 32, .tmp u, .tmp v]) (tmps : Array Value) (w : World) (g : Nat) (cs : Array Value) (hp : tmps.getD p undef = .pointer (some ⟨g, 0, none⟩)) (hb : Blk w g 32 cs) (hz : cs.size = 11) : (results fn tmps).run Tryz.prog w = .ok (.tuple #[.agg cs, tmps.getD u undef, tmps.getD v undef]) w := by
 have hl := run_loadVar_row (P := Tryz.prog) w g 32 32 cs (0, 0) _ hb Tryz.underlying32 rfl (by rw [hz]; kernel_rfl)
 have hp2 : tmps[p]?.getD undef = .pointer (some ⟨g, 0, none⟩) := by simpa using hp
 simp only [results, hr]
 simp [hp2, asAddr, hl]
def ModR (w : World) (x : Mod × Int × Int) (e : Ending) (w' : World) : Prop :=
 ∃ (h : MH) (m : Mod), m = x.1 ∧ e = .returned (.tuple #[.agg #[.slice h.s m.sT.length h.sc, .slice h.f m.fT.length h.fc, .slice h.r m.rT.length h.rc, .slice h.m m.mT.length h.mc, .slice h.l m.lT.length h.lc, .slice h.i m.iT.length h.ic, .int .i64 m.dT, .int .i64 m.oT, .int .i64 m.vT, .int .i64 m.aT, .slice h.u m.uT.length h.uc], .int .i64 x.2.1, .int .i64 x.2.2]) ∧ MD w' w'.heap.size h m ∧ m.rT.length ≤ h.rc ∧ m.mT.length ≤ h.mc ∧ m.lT.length ≤ h.lc ∧ Below w.heap.size w w'
def nilH : MH := ⟨none, 0, none, 0, none, 0, none, 0, none, 0, none, 0, none, 0⟩
theorem MD.zero (w : World) (B : Nat) : MD w B nilH zeroM :=
 ⟨⟨rfl, fun h => absurd h (by simp [zeroM])⟩, ⟨rfl, fun h => absurd h (by simp [zeroM])⟩, Rows.nil_, Rows.nil_, Rows.nil_, Rows.nil_, Rows.nil_, by simp [zeroM], by simp [zeroM], by simp [zeroM], by simp [zeroM], by simp [zeroM], by simp [zeroM], by simp [zeroM], fun s h => absurd h (by simp [zeroM]), fun s h => absurd h (by simp [zeroM])⟩
theorem ModR.zero {w w' : World} {i e : Int} (hb : Below w.heap.size w w') : ModR w (zeroM, i, e) (.returned (.tuple #[.agg zeroMo, .int .i64 i, .int .i64 e])) w' :=
 ⟨nilH, zeroM, rfl, rfl, MD.zero _ _, Nat.le_refl _, Nat.le_refl _, Nat.le_refl _, hb⟩
structure MS (w : World) (br mt ma bm bx : Nat) (l : List Decl) (k : Nat) (wr : World) : Prop where
 b : Below w.heap.size w wr
 t : AM keyStr wr mt (thL (thgs l l.length))
 a : AM keyInt wr ma (adL bm bx)
 bm : Blk wr bm 92 #[.pointer (some ⟨br, 1, none⟩)]
 bx : Blk wr bx 50 #[.pointer (some ⟨br, 0, none⟩)]
 z : Blk wr w.heap.size 32 zeroMo
 d : ∃ V, AD w.heap.size br mt wr V ((l.take k).foldl (addM l) zeroM)
 le : LenLe ((l.take k).foldl (addM l) zeroM) k
theorem MS.grow {w wr w2 : World} {br mt ma bm bx : Nat} {l : List Decl} {k : Nat} (h : MS w br mt ma bm bx l k wr) (hb : Below wr.heap.size wr w2) : MS w br mt ma bm bx l k w2 := by
 obtain ⟨V, hd⟩ := h.d
 exact ⟨h.b.trans (hb.mono h.b.size), h.t.keep (hb.block _ h.t.lt), h.a.keep (hb.block _ h.a.lt), h.bm.below hb h.bm.lt, h.bx.below hb h.bx.lt, h.z.below hb h.z.lt, ⟨V, hd.below hb⟩, h.le⟩
theorem am_kx {α : Type} {K : KeyK α} {w w' : World} {r : Nat} {l : List (α × Value)} (h : AM K w r l) (hk : KX w w') : AM K w' r l := by
 obtain ⟨es, c, e, hv⟩ := h
 exact ⟨es, c, hk.maps _ _ _ e, hv⟩
theorem MS.next {w wr w2 : World} {br mt ma bm bx : Nat} {l : List Decl} {k : Nat} (h : MS w br mt ma bm bx l k wr) (hk : k < l.length) {V : MV} (hd : AD w.heap.size br mt w2 V (addM l ((l.take k).foldl (addM l) zeroM) l[k])) (hb : Below w.heap.size wr w2) (hx : KX wr w2) : MS w br mt ma bm bx l (k + 1) w2 := by
 have he : (l.take (k + 1)).foldl (addM l) zeroM = addM l ((l.take k).foldl (addM l) zeroM) l[k] := by
  rw [List.take_succ_eq_append_getElem hk, List.foldl_append]; rfl
 refine ⟨h.b.trans hb, am_kx h.t hx, am_kx h.a hx, hx.blk _ _ _ (by decide) h.bm, hx.blk _ _ _ (by decide) h.bx, hx.blk _ _ _ (by decide) h.z, ⟨V, by rw [he]; exact hd⟩, ?_⟩
 rw [he]; exact h.le.step l l[k]
theorem fn_zero19 (w : World) : (zeroValue 59).run Tryz.prog w = .ok .nilFunc w := by kernel_rfl
theorem RM.md2 {B : Nat} {w : World} {V : MV} {m : Mod} (h : RM B w V m) {hh : MH} (e : V = ⟨.slice hh.s m.sT.length hh.sc, .slice hh.f m.fT.length hh.fc, .slice hh.r m.rT.length hh.rc, .slice hh.m m.mT.length hh.mc, .slice hh.l m.lT.length hh.lc, .slice hh.i m.iT.length hh.ic, .slice hh.u m.uT.length hh.uc⟩) : MD w w.heap.size hh m ∧ m.rT.length ≤ hh.rc ∧ m.mT.length ≤ hh.mc ∧ m.lT.length ≤ hh.lc := by
 obtain ⟨H, e2, h1, h2, h3, h4⟩ := h.md
 rw [e] at e2
 have : H = hh := by
  cases H
  cases hh
  simp only [MV.mk.injEq, Value.slice.injEq] at e2
  obtain ⟨⟨a1, _, a2⟩, ⟨b1, _, b2⟩, ⟨c1, _, c2⟩, ⟨d1, _, d2⟩, ⟨f1, _, f2⟩, ⟨g1, _, g2⟩, ⟨i1, _, i2⟩⟩ := e2
  subst a1 a2 b1 b2 c1 c2 d1 d2 f1 f2 g1 g2 i1 i2
  rfl
 subst this
 exact ⟨h1, h2, h3, h4⟩
theorem adL_none {bm bx : Nat} {k : Int} (h : 10 ≤ k) : getA (adL bm bx) k = none := by
 unfold adL
 simp only [getA_cons]
 repeat rw [if_neg (by omega)]
 rfl
theorem rule_nums {d : Decl} (hv : validD d = true) (h : 10 ≤ d.kind) : d.nums.length ≤ 1 := by
 obtain ⟨k0, k1⟩ := vd_kind hv
 have h3 := (vd_counts hv).2.2
 obtain ⟨n, hn⟩ : ∃ n : Nat, d.kind = n := ⟨d.kind.toNat, by omega⟩
 rw [hn] at h3
 have : ∀ n : Nat, n < 17 → 10 ≤ n → numsN (n : Int) ≤ 1 := by decide
 rw [h3]
 exact this n (by omega) (by omega)
theorem ruleT_A {l : List Decl} {d : Decl} : ruleT (d.refs.map (numN l)) d = ruleA l d := by
 have hr : ∀ i, (d.refs.map (numN l)).getD i 0 = refN l d i := fun i => by
  unfold refN
  rw [List.getD_eq_getElem?_getD, List.getElem?_map]
  cases d.refs[i]? <;> rfl
 unfold ruleT ruleA
 rw [hr, hr, List.map_drop]
theorem addM_rule {l : List Decl} {d : Decl} {m : Mod} (h : 10 ≤ d.kind) : addM l m d = ⟨m.sT, m.fT, m.rT, m.mT, m.lT, m.iT, m.dT, m.oT, m.vT, m.aT, m.uT ++ [ruleA l d]⟩ := by
 unfold addM
 rw [if_neg (by omega), if_neg (by omega), if_neg (by omega), if_neg (by omega), if_neg (by omega), if_neg (by omega), if_neg (by omega), if_neg (by omega)]
theorem model_prog (A : Option Addr) (c : Nat) (l : List Decl) (w : World) (ha : Asc w) (h : Decls w w.heap.size A l) (hl : l.length ≤ 100000) :
    Calls Tryz.prog 11 #[.slice A l.length c] w (ModR w (modelR l)) := by
 obtain ⟨mt, hmt⟩ : ∃ mt, mt = w.heap.size + 1 := ⟨_, rfl⟩
 obtain ⟨br, hbr⟩ : ∃ br, br = w.heap.size + 1 + 1 := ⟨_, rfl⟩
 obtain ⟨w0, hw0⟩ : ∃ w0, w0 = (w.alloc (.cells zeroMo 32)).alloc (.map #[] 0) := ⟨_, rfl⟩
 obtain ⟨wa, hwa⟩ : ∃ wa, wa = w0.alloc (.cells (resC mt nilV zeroM) 53) := ⟨_, rfl⟩
 have hb0 : Below w.heap.size w w0 := by rw [hw0]; exact ((Below.refl _ _).alloc (Nat.le_refl _) _).alloc (by simp) _
 have hba : Below w.heap.size w wa := by rw [hwa]; exact hb0.alloc hb0.size _
 have hs0 : w0.heap.size = w.heap.size + 2 := by rw [hw0]; simp
 have HZA := hide (show Blk wa w.heap.size 32 zeroMo from by rw [hwa, hw0]; exact ((Blk.new w _ _).alloc _).alloc _)
 have HMA := hide (show AM keyStr wa mt [] from by
  have := AM.new (K := keyStr) (w.alloc (.cells zeroMo 32))
  rw [World.size_alloc, ← hmt] at this
  rw [hwa]
  refine AM.keep (w := w0) (by rw [hw0]; exact this) (Below.heap_alloc w0 _ _ (by omega)))
 have HRA := hide (show Blk wa br 53 (resC mt nilV zeroM) from by rw [hwa, hbr, ← hs0]; exact Blk.new w0 _ _)
 have HCO := hide (collect_prog w.heap.size br mt A c l wa (fun W hW => ha.below (Nat.le_refl _) (hba.trans hW)) (h.below hba) (by omega) hba.size (HRA.out.cell 0) HRA.out (by omega) HMA.out)
 have H := hide h
 have HAS := hide ha
 have HL := hide hl
 have HBA := hide hba
 have HWA := hide (show wa = ((w.alloc (.cells zeroMo 32)).alloc (.map #[] 0)).alloc (.cells (resC mt nilV zeroM) 53) from by rw [hwa, hw0])
 have hmm := @run_makeMap Tryz.prog
 have HMR := hide (show modelR l = match collectR l with | some x => (zeroM, (x.1 : Int), x.2) | none => match checkR l with | some x => (zeroM, (x.1 : Int), x.2) | none => if l.any (fun d => decide (d.kind = 8)) = false then (zeroM, (l.length : Int), 6) else if validM (buildM l) = false then (zeroM, (l.length : Int), 2) else (buildM l, 0, 0) from rfl)
 have HLT := hide (And.intro hmt hbr)
 clear hw0 hwa hb0 hba hs0 ha h hl
 obtain ⟨mr, hmr⟩ : ∃ mr, mr = modelR l := ⟨_, rfl⟩
 rw [← hmr] at HMR
 rw [← hmr]
 clear hmr
 go_enter Tryz.func11, Tryz.ntmps11
 go_upto_region 2 with (fail)
 rw [← hbr, ← hmt]
 have hwe : ((w.alloc (.cells #[.slice none 0 0, .slice none 0 0, .slice none 0 0, .slice none 0 0, .slice none 0 0, .slice none 0 0, .int .i64 0, .int .i64 0, .int .i64 0, .int .i64 0, .slice none 0 0] 32)).alloc (.map #[] 0)).alloc (.cells #[.map (some mt), .slice none 0 0, .slice none 0 0, .slice none 0 0, .slice none 0 0, .slice none 0 0, .slice none 0 0, .int .i64 0, .int .i64 0, .int .i64 0, .int .i64 0, .slice none 0 0] 53) = wa := HWA.out.symm
 rw [hwe]
 clear hwe hbr hmt hmm
 obtain ⟨co, hco⟩ : ∃ co, co = collectR l := ⟨_, rfl⟩
 have hcr := HCO.out
 unfold CollR at hcr
 rw [← hco] at hcr
 have HCR := hide hcr
 have HCE := hide hco
 rw [← hco] at HMR
 clear HCO hco hcr
 cases co with
 | some x =>
   have hx0 : x.2 ≠ 0 := (firstBad_is (by have := HCE.out.symm; unfold collectR at this; exact this)).2.1 ▸ (firstBad_is (by have := HCE.out.symm; unfold collectR at this; exact this)).2.2.1
   have hxb : (x.2 != 0) = true := by simpa using hx0
   clear hx0
   go_wp2_with (go_at_call 23; refine HCR.out.mono ?_; rintro e w1 ⟨rfl, hb1, hk1⟩
                have HBW := hide (HBA.out.trans hb1)
                have HZW := hide (hk1.blk _ _ _ HZA.out)
                obtain ⟨⟨q0, t0⟩, f0⟩ := mod_cells HZW.out 0 (by decide)
                obtain ⟨⟨q1, t1⟩, f1⟩ := mod_cells HZW.out 1 (by decide)
                obtain ⟨⟨q2, t2⟩, f2⟩ := mod_cells HZW.out 2 (by decide)
                obtain ⟨⟨q3, t3⟩, f3⟩ := mod_cells HZW.out 3 (by decide)
                obtain ⟨⟨q4, t4⟩, f4⟩ := mod_cells HZW.out 4 (by decide)
                obtain ⟨⟨q5, t5⟩, f5⟩ := mod_cells HZW.out 5 (by decide)
                obtain ⟨⟨q6, t6⟩, f6⟩ := mod_cells HZW.out 6 (by decide)
                obtain ⟨⟨q7, t7⟩, f7⟩ := mod_cells HZW.out 7 (by decide)
                obtain ⟨⟨q8, t8⟩, f8⟩ := mod_cells HZW.out 8 (by decide)
                obtain ⟨⟨q9, t9⟩, f9⟩ := mod_cells HZW.out 9 (by decide)
                obtain ⟨⟨q10, t10⟩, f10⟩ := mod_cells HZW.out 10 (by decide)
                have tl := HZW.out.lt
                clear hb1 hk1)
   refine bodyPost_ret (ret_mod rfl _ _ w.heap.size zeroMo rfl (((((((((((HZW.out.set_ 0 _).set_ 1 _).set_ 2 _).set_ 3 _).set_ 4 _).set_ 5 _).set_ 6 _).set_ 7 _).set_ 8 _).set_ 9 _).set_ 10 _) rfl) rfl ?_
   rw [HMR.out]
   exact ModR.zero (((((((((((HBW.out.setCell (Nat.le_refl _) _).setCell (Nat.le_refl _) _).setCell (Nat.le_refl _) _).setCell (Nat.le_refl _) _).setCell (Nat.le_refl _) _).setCell (Nat.le_refl _) _).setCell (Nat.le_refl _) _).setCell (Nat.le_refl _) _).setCell (Nat.le_refl _) _).setCell (Nat.le_refl _) _).setCell (Nat.le_refl _) _)
 | none =>
   have HVA := hide (fun j (hj : j < l.length) => show validD l[j] = true from by
    have h0 := (firstBad_none.1 (by have := HCE.out.symm; unfold collectR at this; exact this)) j hj
    simp only [List.getElem?_eq_getElem hj] at h0
    unfold firstE at h0
    cases hv : validD l[j] with
    | true => rfl
    | false => rw [hv] at h0; simp at h0)
   have HMR2 := hide (show mr = match checkR l with | some x => (zeroM, (x.1 : Int), x.2) | none => if l.any (fun d => decide (d.kind = 8)) = false then (zeroM, (l.length : Int), 6) else if validM (buildM l) = false then (zeroM, (l.length : Int), 2) else (buildM l, 0, 0) from HMR.out)
   clear HMR
   go_upto_region 6 with (first
    | (go_at_call 23; refine HCR.out.mono ?_; rintro e w1 ⟨⟨rfl, ht1⟩, hb1, hk1⟩
       have HT1 := hide ht1
       have HB1 := hide hb1
       have HK1 := hide hk1
       clear ht1 hb1 hk1)
    | (go_at_call 24; refine (adders_prog br w1).mono ?_; rintro e w2 ⟨ma, bm, bx, rfl, hma, hA2, hm2, hx2, hb2⟩
       have HA2 := hide (And.intro hma (And.intro hA2 (And.intro hm2 (And.intro hx2 hb2))))
       clear hma hA2 hm2 hx2 hb2))
   have HMS := hide (show MS w br mt ma bm bx l 0 w2 from by
    obtain ⟨h1, h2, h3, h4, h5⟩ := HA2.out
    have hwb : w.heap.size ≤ w1.heap.size := Nat.le_trans HBA.out.size HK1.out.size
    refine ⟨(HBA.out.trans HB1.out).trans (h5.mono hwb), HT1.out.keep (h5.block _ HT1.out.lt), h2, h3, h4, (HK1.out.blk _ _ _ HZA.out).below h5 (HK1.out.blk _ _ _ HZA.out).lt, ⟨nilV, (HK1.out.blk _ _ _ HRA.out).below h5 (HK1.out.blk _ _ _ HRA.out).lt, RM.zero _ _, by rw [HLT.out.2]; omega⟩, ?_⟩
    exact ⟨Nat.le_refl _, Nat.le_refl _, Nat.le_refl _, Nat.le_refl _, Nat.le_refl _, Nat.le_refl _, Nat.le_refl _⟩)
   clear HT1 HB1 HK1 HA2 HCR HZA HMA HRA HWA
   go_wp2_with fail
   go_loopw [9, 32] (fun v i wr => ∃ k : Nat, k ≤ l.length ∧ i = .int .i64 k ∧ v = .bool ((l.take k).any (kdB 8)) ∧ Hid (∀ j (_ : j < l.length), j < k → checkE l l[j] = 0) ∧ Hid (MS w br mt ma bm bx l k wr)) (fun _ i _ => l.length - (intOf i).toNat)
   case atStart => exact ⟨0, Nat.zero_le _, rfl, rfl, hide (fun j _ h0 => absurd h0 (by omega)), HMS⟩
   case round =>
    clear HMS
    obtain ⟨k, hk, rfl, rfl, hno, hS⟩ := hrel
    rename World => w5
    obtain ⟨dark, hdark⟩ : ∃ dark, dark = (l.take k).any (kdB 8) := ⟨_, rfl⟩
    have HDA := hide hdark
    rw [← hdark]
    clear hdark
    by_cases hlt : k < l.length
    · obtain ⟨b, o, ra, rc, na, nc, hAd, hbl, x0, x1, x2, x3, x4, x5, hcap, hr, hn, hfine⟩ := (H.out.below hS.out.b).at2_ hlt
      have HST := hide (And.intro hr (And.intro hn hcap))
      obtain ⟨d, hd⟩ : ∃ d, d = l[k] := ⟨_, rfl⟩
      have HD := hide hd
      rw [← hd] at x0 x1 x2 x3 x4 x5 HST
      have HV := hide (show validD d = true from by rw [hd]; exact HVA.out k hlt)
      have hltI : (k : Int) < (l.length : Int) := by omega
      have HB56 := hide ((Below.refl w5.heap.size w5).alloc (Nat.le_refl _) (.cells #[.int .i64 d.kind, .string d.name, .slice ra d.refs.length rc, .slice na d.nums.length nc, .int .i64 d.by_, .bool d.always] 43))
      have HX6 := hide (Blk.new w5 43 #[.int .i64 d.kind, .string d.name, .slice ra d.refs.length rc, .slice na d.nums.length nc, .int .i64 d.by_, .bool d.always])
      obtain ⟨bd, hbd⟩ : ∃ bd, bd = w5.heap.size := ⟨_, rfl⟩
      rw [← hbd] at HX6
      have HBD := hide hbd
      subst hAd
      clear hd hr hn hfine hcap hbd
      go_upto_region 10 with (fail)
      rw [← HBD.out]
      obtain ⟨w6, hw6⟩ : ∃ w6, w6 = w5.alloc (.cells #[.int .i64 d.kind, .string d.name, .slice ra d.refs.length rc, .slice na d.nums.length nc, .int .i64 d.by_, .bool d.always] 43) := ⟨_, rfl⟩
      rw [← hw6] at HX6 HB56
      rw [← hw6]
      have hS6 := hS.out.grow HB56.out
      obtain ⟨V6, hAD6⟩ := hS6.d
      have hwm : w.heap.size ≤ w5.heap.size := hS.out.b.size
      have hst6 := HST.out
      have HCK := hide (check_prog br mt l d ra na rc nc w6 HV.out (hAD6.blk.cell 0) hS6.t ((hst6.1.below (HB56.out.mono hwm)).more (Nat.le_trans hwm HB56.out.size)) hst6.2.2.1)
      have HS6 := hide hS6
      clear hw6 x0 x1 x2 x3 x4 x5 hAD6 hst6 hS6
      have z0 := HX6.out.cell 0
      have z1 := HX6.out.cell 1
      have z2 := HX6.out.cell 2
      have z3 := HX6.out.cell 3
      have z4 := HX6.out.cell 4
      have z5 := HX6.out.cell 5
      have zl := HX6.out.lt
      simp at z0 z1 z2 z3 z4 z5
      obtain ⟨ce, hce⟩ : ∃ ce, ce = checkE l d := ⟨_, rfl⟩
      have HCEE := hide hce
      rw [← hce] at HCK
      clear hce
      by_cases hc0 : ce = 0
      · subst hc0
        have HNO := hide (fun j (hj : j < l.length) (hjk : j < k + 1) => show checkE l l[j] = 0 from by
         by_cases e : j = k
         · subst e; rw [← HD.out]; exact HCEE.out.symm
         · exact hno.out j hj (by omega))
        go_upto_region 13 with (go_at_call 25; refine HCK.out.mono ?_; rintro e w7 ⟨rfl, hb7⟩; have HB7 := hide hb7; clear hb7)
        have hS7 := HS6.out.grow HB7.out
        have HX7 := hide (HX6.out.below HB7.out HX6.out.lt)
        have HS7 := hide hS7
        have z0 := HX7.out.cell 0
        have z1 := HX7.out.cell 1
        have z2 := HX7.out.cell 2
        have z3 := HX7.out.cell 3
        have z4 := HX7.out.cell 4
        have z5 := HX7.out.cell 5
        have zl := HX7.out.lt
        simp at z0 z1 z2 z3 z4 z5
        have HST7 := hide (show Strs w7 w.heap.size ra d.refs ∧ Ints w7 w.heap.size na d.nums ∧ d.refs.length ≤ rc ∧ d.nums.length ≤ nc from by
         obtain ⟨h1, h2, h3, h4⟩ := HST.out
         have hb57 : Below w.heap.size w5 w7 := (HB56.out.mono hwm).trans (HB7.out.mono (Nat.le_trans hwm HB56.out.size))
         exact ⟨h1.below hb57, h2.below hb57, h3, h4⟩)
        have HDK := hide (show (l.take (k + 1)).any (kdB 8) = (dark || decide (d.kind = 8)) from by rw [any_succ hlt, ← HD.out, HDA.out]; rfl)
        clear hS7
        go_cut [9] from 45 to 51 (fun v wx => v = .bool (dark || decide (d.kind = 8)) ∧ Hid (wx = w7))
        case first =>
         cases dark with
         | true =>
           go_wp2_with fail
           go_meet
           case rel => exact ⟨rfl, hide rfl⟩
         | false =>
           obtain ⟨dk, hdk⟩ : ∃ dk, dk = d.kind := ⟨_, rfl⟩
           rw [← hdk] at z0
           by_cases e8 : dk = 8
           · have g8 : (dk == 8) = true := by simpa using e8
             have HRL := hide (show (false || decide (d.kind = 8)) = true from by rw [← hdk, e8]; rfl)
             clear hdk e8
             go_wp2_with fail
             go_meet
             case rel => exact ⟨by rw [HRL.out], hide rfl⟩
           · have g8 : (dk == 8) = false := by simpa using e8
             have HRL := hide (show (false || decide (d.kind = 8)) = false from by rw [← hdk]; simpa using e8)
             clear hdk e8
             go_wp2_with fail
             go_meet
             case rel => exact ⟨by rw [HRL.out], hide rfl⟩
        case rest =>
         obtain ⟨rfl, hwx⟩ := hcut
         have hwx := hwx.out.symm
         subst hwx
         obtain ⟨dark2, hd2⟩ : ∃ dark2, dark2 = (dark || decide (d.kind = 8)) := ⟨_, rfl⟩
         have HD2 := hide hd2
         rw [← hd2]
         clear hd2
         by_cases hk9 : d.kind ≤ 9
         · obtain ⟨g, lb, hg, eg, hC⟩ := add_any l d bm bx HV.out hk9
           have hlook := HS7.out.a.look1 (P := Tryz.prog) (t := 56) (KT := 3) (E := 59) Tryz.underlying56 Tryz.underlying3 (fn_zero19 w7) d.kind
           rw [hg] at hlook
           have hlook2 : (Instr.lookup 56 (.map (some ma)) (.int .i64 d.kind) false).run Tryz.prog w7 = .ok (.func (.func g) #[] lb) w7 := hlook
           have HCC := hide hC
           have hneq : ∀ W, (binOp BinOp.neq 59 (Value.func (Fn.func g) #[] lb) Value.nilFunc).run Tryz.prog W = .ok (.bool true) W := fun W => by kernel_rfl
           clear hg hC hlook
           go_wp2_with fail
           have HSK := hide (fun (W : World) (h : KX w7 W) => (⟨(h.blk _ _ _ (by decide) HX7.out).cell 0, (h.blk _ _ _ (by decide) HX7.out).cell 1, (h.blk _ _ _ (by decide) HX7.out).cell 2, (h.blk _ _ _ (by decide) HX7.out).cell 3, (h.blk _ _ _ (by decide) HX7.out).cell 4, (h.blk _ _ _ (by decide) HX7.out).cell 5⟩ : W.cell? ⟨bd, 0, none⟩ = some (.int .i64 d.kind) ∧ W.cell? ⟨bd, 1, none⟩ = some (.string d.name) ∧ W.cell? ⟨bd, 2, none⟩ = some (.slice ra d.refs.length rc) ∧ W.cell? ⟨bd, 3, none⟩ = some (.slice na d.nums.length nc) ∧ W.cell? ⟨bd, 4, none⟩ = some (.int .i64 d.by_) ∧ W.cell? ⟨bd, 5, none⟩ = some (.bool d.always)))
           have HK7 := hide (KX.of_below (Below.refl w7.heap.size w7).drew)
           obtain ⟨V7, hAD7⟩ := HS7.out.d
           have hsz7 : w.heap.size ≤ w7.heap.size := HS7.out.b.size
           have HNU := hide (rnumbers_prog br mt (thgs l l.length) ra rc d.refs w7.drew (hAD7.blk.cell 0) hAD7.blk.lt (show AM keyStr w7.drew mt (thL (thgs l l.length)) from HS7.out.t) (HST7.out.1.more hsz7) (Nat.le_trans (vd_refs17 HV.out) (by decide)))
           obtain ⟨ns, hns⟩ : ∃ ns, ns = d.refs.map (numN l) := ⟨_, rfl⟩
           rw [refs_nums HV.out, ← hns] at HNU
           have HNS := hide hns
           clear hns hAD7 z0 z1 z2 z3 z4 z5 zl
           go_region_held3 (fun W => W.cell? ⟨bd, 0, none⟩ = some (.int .i64 d.kind) ∧ W.cell? ⟨bd, 1, none⟩ = some (.string d.name) ∧ W.cell? ⟨bd, 2, none⟩ = some (.slice ra d.refs.length rc) ∧ W.cell? ⟨bd, 3, none⟩ = some (.slice na d.nums.length nc) ∧ W.cell? ⟨bd, 4, none⟩ = some (.int .i64 d.by_) ∧ W.cell? ⟨bd, 5, none⟩ = some (.bool d.always)) (with_reducible (first | exact HSK.out _ HK7.out | exact HSK.out _ HK8.out | exact HSK.out _ HK9.out))
            ((first
              | (go_at_call 26; refine HNU.out.mono ?_; rintro e w8 ⟨v8, rfl, ho8, hb8⟩
                 have hb78 : Below w7.heap.size w7 w8 := (Below.refl _ w7).drew.trans hb8
                 have HK8 := hide (KX.of_below hb78)
                 have HS8 := hide (HS7.out.grow hb78)
                 obtain ⟨V8, hAD8⟩ := HS8.out.d
                 obtain ⟨A8, c8, rfl, _, _⟩ := ho8.form
                 have hl9 : LenLe ((l.take k).foldl (addM l) zeroM) 900000 := by
                  have h1 := HS8.out.le
                  have h2 := HL.out
                  unfold LenLe at h1 ⊢
                  omega
                 have HAD := hide (HCC.out w.heap.size br mt V8 _ ra na A8 rc nc c8 _ ns w8 hAD8 HS8.out.b.size HS8.out.bm HS8.out.bx HS8.out.t (HST7.out.1.below (hb78.mono hsz7)) (HST7.out.2.1.below (hb78.mono hsz7)) HST7.out.2.2.2 HNS.out ho8 hl9)
                 clear ho8 hb8 hb78 hAD8 hl9)
              | (refine HAD.out.mono ?_; rintro e w9 ⟨rfl, ⟨V9, hAD9⟩, hb9, hx9⟩
                 have HK9 := hide (HK8.out.trans hx9)
                 have HFIN := hide (HS8.out.next hlt (by rw [← HD.out]; exact hAD9) hb9 hx9)
                 clear hAD9 hb9 hx9)))
           all_goals
            have hl5 := HL.out
            go_wp2_with fail
            go_roundw
            case rel => exact ⟨k + 1, by omega, by go_num, by rw [HDK.out, ← HD2.out], HNO, HFIN⟩
            case measure => simp [intOf]; omega
         · have hk10 : 10 ≤ d.kind := by omega
           have hlook := HS7.out.a.look1 (P := Tryz.prog) (t := 56) (KT := 3) (E := 59) Tryz.underlying56 Tryz.underlying3 (fn_zero19 w7) d.kind
           rw [adL_none hk10] at hlook
           have hlook2 : (Instr.lookup 56 (.map (some ma)) (.int .i64 d.kind) false).run Tryz.prog w7 = .ok .nilFunc w7 := hlook
           have hneq : ∀ W, (binOp BinOp.neq 59 Value.nilFunc Value.nilFunc).run Tryz.prog W = .ok (.bool false) W := fun W => by kernel_rfl
           have HSK := hide (fun (W : World) (h : KX w7 W) => (⟨(h.blk _ _ _ (by decide) HX7.out).cell 0, (h.blk _ _ _ (by decide) HX7.out).cell 1, (h.blk _ _ _ (by decide) HX7.out).cell 2, (h.blk _ _ _ (by decide) HX7.out).cell 3, (h.blk _ _ _ (by decide) HX7.out).cell 4, (h.blk _ _ _ (by decide) HX7.out).cell 5⟩ : W.cell? ⟨bd, 0, none⟩ = some (.int .i64 d.kind) ∧ W.cell? ⟨bd, 1, none⟩ = some (.string d.name) ∧ W.cell? ⟨bd, 2, none⟩ = some (.slice ra d.refs.length rc) ∧ W.cell? ⟨bd, 3, none⟩ = some (.slice na d.nums.length nc) ∧ W.cell? ⟨bd, 4, none⟩ = some (.int .i64 d.by_) ∧ W.cell? ⟨bd, 5, none⟩ = some (.bool d.always)))
           have HK7 := hide (KX.of_below (Below.refl w7.heap.size w7).drew)
           have HSZ := hide (show w.heap.size ≤ w7.heap.size from HS7.out.b.size)
           obtain ⟨V7, hAD7⟩ := HS7.out.d
           have hun := rla_prog br mt (thgs l l.length) d ra na rc nc w7.drew (hAD7.blk.cell 0) (show AM keyStr w7.drew mt (thL (thgs l l.length)) from HS7.out.t) (HST7.out.1.more HSZ.out) (Nat.le_trans (vd_refs17 HV.out) (by decide)) (HST7.out.2.1.more HSZ.out) (rule_nums HV.out hk10) ⟨hk10, (vd_kind HV.out).2⟩ (fun h13 => by have := (vd_counts HV.out).1; rw [h13, show refsLo 13 = 2 from by decide] at this; omega)
           rw [refs_nums HV.out, ruleT_A] at hun
           obtain ⟨x, hx⟩ : ∃ x, x = ruleA l d := ⟨_, rfl⟩
           rw [← hx] at hun
           have HUN := hide hun
           obtain ⟨M, hM⟩ : ∃ M, M = (l.take k).foldl (addM l) zeroM := ⟨_, rfl⟩
           have HAM := hide (show addM l ((l.take k).foldl (addM l) zeroM) d = ⟨M.sT, M.fT, M.rT, M.mT, M.lT, M.iT, M.dT, M.oT, M.vT, M.aT, M.uT ++ [x]⟩ from by rw [← hM, hx, addM_rule hk10])
           have hle : LenLe M k := by rw [hM]; exact HS7.out.le
           rw [← hM] at hAD7
           have HAD := hide hAD7
           obtain ⟨LU, u1, u2, u3⟩ := hAD7.rm.u
           have HU1 := hide u1
           have HU2 := hide u2
           have HU3 := hide u3
           have hll : LU.length = M.uT.length := by rw [← u1]; simp
           obtain ⟨A0, c0, er, hcr, _⟩ := u2.form
           have old : w7.cell? ⟨br, 11, none⟩ = some (.slice A0 LU.length c0) := by rw [← er]; exact hAD7.blk.cell 11
           have HER := hide er
           have cl := hAD7.blk.lt
           obtain ⟨nL, hnL⟩ : ∃ nL, nL = LU.length := ⟨_, rfl⟩
           have HNL := hide hnL
           have HLL := hide (show nL ≤ 900000 by rw [hnL, hll]; have := hle.2.2.2.2.2.2; have := HL.out; omega)
           rw [← hnL] at old
           clear hun hx hM hle hAD7 u1 u2 u3 hll er hcr hnL hlook
           go_wp2_with fail
           refine wp_region_held_drew (S := (fun W => W.cell? ⟨bd, 0, none⟩ = some (.int .i64 d.kind) ∧ W.cell? ⟨bd, 1, none⟩ = some (.string d.name) ∧ W.cell? ⟨bd, 2, none⟩ = some (.slice ra d.refs.length rc) ∧ W.cell? ⟨bd, 3, none⟩ = some (.slice na d.nums.length nc) ∧ W.cell? ⟨bd, 4, none⟩ = some (.int .i64 d.by_) ∧ W.cell? ⟨bd, 5, none⟩ = some (.bool d.always))) (by kernel_rfl) (HSK.out _ HK7.out) (fun hHeld => ?_)
           refine wpAnyH_take (i := 0) (oi := _) (v := ?_) rfl (by kernel_rfl) (by kernel_rfl) (by kernel_rfl) (fun _ _ _ h => h) (Or.inl ⟨by rfl, ?_⟩) hHeld ?_
           rotate_left
           · intro W hSw; (try dsimp only at hSw); go_simp; try with_reducible rfl
           simp only [Act.put, List.getElem_toArray, List.getElem_cons_zero, List.setIfInBounds_toArray, List.set_cons_zero, List.set_cons_succ]
           refine wpAnyH_take (i := 1) (oi := _) (v := ?_) rfl (by kernel_rfl) (by kernel_rfl) (by kernel_rfl) (fun _ _ _ h => h) (Or.inl ⟨by rfl, ?_⟩) hHeld ?_
           rotate_left
           · intro W hSw; (try dsimp only at hSw); go_simp; try with_reducible rfl
           simp only [Act.put, List.getElem_toArray, List.getElem_cons_succ, List.getElem_cons_zero, List.setIfInBounds_toArray, List.set_cons_zero, List.set_cons_succ]
           refine wpAnyH_take (i := 2) (oi := _) (v := ?_) rfl (by kernel_rfl) (by kernel_rfl) (by kernel_rfl) (fun _ _ _ h => h) (Or.inl ⟨by rfl, ?_⟩) hHeld ?_
           rotate_left
           · intro W hSw; (try dsimp only at hSw); go_simp; try with_reducible rfl
           simp only [Act.put, List.getElem_toArray, List.getElem_cons_succ, List.getElem_cons_zero, List.setIfInBounds_toArray, List.set_cons_zero, List.set_cons_succ]
           refine wpAnyH_take (i := 3) (oi := _) (v := ?_) rfl (by kernel_rfl) (by kernel_rfl) (by kernel_rfl) (fun _ _ _ h => h) (Or.inl ⟨by rfl, ?_⟩) hHeld ?_
           rotate_left
           · intro W hSw; (try dsimp only at hSw); go_simp; try with_reducible rfl
           simp only [Act.put, List.getElem_toArray, List.getElem_cons_succ, List.getElem_cons_zero, List.setIfInBounds_toArray, List.set_cons_zero, List.set_cons_succ]
           refine wpAnyH_take (i := 4) (oi := _) (v := ?_) rfl (by kernel_rfl) (by kernel_rfl) (by kernel_rfl) (fun _ _ _ h => h) (Or.inl ⟨by rfl, ?_⟩) hHeld ?_
           rotate_left
           · intro W hSw; (try dsimp only at hSw); go_simp; try with_reducible rfl
           simp only [Act.put, List.getElem_toArray, List.getElem_cons_succ, List.getElem_cons_zero, List.setIfInBounds_toArray, List.set_cons_zero, List.set_cons_succ]
           refine wpAnyH_take (i := 6) (oi := _) (v := ?_) rfl (by kernel_rfl) (by kernel_rfl) (by kernel_rfl) (fun _ _ _ h => h) (Or.inl ⟨by rfl, ?_⟩) hHeld ?_
           rotate_left
           · intro W hSw; (try dsimp only at hSw); go_simp; try with_reducible rfl
           simp only [Act.put, List.getElem_toArray, List.getElem_cons_succ, List.getElem_cons_zero, List.setIfInBounds_toArray, List.set_cons_zero, List.set_cons_succ]
           refine wpAnyH_take (i := 7) (oi := _) (v := ?_) rfl (by kernel_rfl) (by kernel_rfl) (by kernel_rfl) (fun _ _ _ h => h) (Or.inl ⟨by rfl, ?_⟩) hHeld ?_
           rotate_left
           · intro W hSw; (try dsimp only at hSw); go_simp; try with_reducible rfl
           simp only [Act.put, List.getElem_toArray, List.getElem_cons_succ, List.getElem_cons_zero, List.setIfInBounds_toArray, List.set_cons_zero, List.set_cons_succ]
           refine wpAnyH_ready (rs := [5, 8]) (by kernel_rfl) (by simp) ?_
           refine AllReadyH.cons rfl (fun K hK => ?_) (AllReadyH.cons rfl (fun K hK => ?_) AllReadyH.nil)
           · go_simp
             refine hK.out _ _ (HSK.out _ HK7.out) (fun hHeld => ?_)
             clear hK K
             refine wpAnyH_ready (rs := [8]) (by kernel_rfl) (by simp) ?_
             refine AllReadyH.cons rfl (fun K hK => ?_) AllReadyH.nil
             go_simp
             go_at_call 27
             refine HUN.out.mono ?_
             rintro e w2 ⟨A3, c3, rfl, ho2, hb2⟩
             dsimp only [cellsRu]
             have HO2 := hide ho2
             have HB2 := hide (show Below w7.heap.size w7 w2 from ((Below.refl _ w7).drew).trans hb2)
             have HK2 := hide (KX.of_below HB2.out)
             have HK3 := hide (HK2.out.trans (KX.of_below ((Below.refl _ w2).alloc (Nat.le_refl _) (.cells #[.int .i64 x.kind, .int .i64 x.item, .int .i64 x.other, .int .i64 x.n, .int .i64 x.by_, .bool x.always, .slice A3 x.machines.length c3] 62))))
             have old2 : w2.cell? ⟨br, 11, none⟩ = some (.slice A0 nL c0) := (HB2.out.cell (p := ⟨br, 11, none⟩) cl).trans old
             have cl2 : br < w2.heap.size := Nat.lt_of_lt_of_le cl HB2.out.size
             clear ho2 hb2
             (try dsimp only)
             refine hK.out _ _ (HSK.out _ HK2.out) (fun hHeld => ?_)
             clear hK K
             refine wpAnyH_ready (rs := [9]) (by kernel_rfl) (by simp) ?_
             refine AllReadyH.cons rfl (fun K hK => ?_) AllReadyH.nil
             go_simp
             refine hK.out _ _ (HSK.out _ HK3.out) (fun hHeld => ?_)
             clear hK K
             refine wpAnyH_ready (rs := [10]) (by kernel_rfl) (by simp) ?_
             refine AllReadyH.cons rfl (fun K hK => ?_) AllReadyH.nil
             refine step_append_el okRule rfl _ _ rfl w.heap.size (.slice A0 nL c0) LU rfl ((show OwnE_ elRule w.heap.size w7 (.slice A0 nL c0) LU from by rw [HNL.out, ← HER.out]; exact HU2.out).below (HB2.out.alloc HB2.out.size _)) _ _ 1 1 [((x, A3, c3) : RuV)] rfl (Reads.newE (E := elRule) w2 ((x, A3, c3) : RuV)) rfl (by rw [← HNL.out]; have := HLL.out; simp; omega) (by have := HB2.out.size; have := HSZ.out; simp; omega) ?_
             intro v1 w1 ho1 hg1 hv1
             have hbb := HB2.out.alloc HB2.out.size (.cells #[.int .i64 x.kind, .int .i64 x.item, .int .i64 x.other, .int .i64 x.n, .int .i64 x.by_, .bool x.always, .slice A3 x.machines.length c3] 62)
             have ha1 := HAD.out.below hbb
             have hg2 : (w2.alloc (.cells #[.int .i64 x.kind, .int .i64 x.item, .int .i64 x.other, .int .i64 x.n, .int .i64 x.by_, .bool x.always, .slice A3 x.machines.length c3] 62)).grownBy w1 V7.u.ownBlock := by rw [HER.out, ← HNL.out]; exact ⟨hg1.os, hg1.tape, hg1.output, hg1.size, hg1.block⟩
             have hi2 := HU2.out.below hbb
             have hrT : RowT (w2.alloc (.cells #[.int .i64 x.kind, .int .i64 x.item, .int .i64 x.other, .int .i64 x.n, .int .i64 x.by_, .bool x.always, .slice A3 x.machines.length c3] 62)) V7.u.ownBlock 62 := RowT.own hi2
             have hlo : ∀ g, V7.u.ownBlock = some g → w.heap.size ≤ g := fun g e => (hi2.lt g e).1
             have hb2 : Blk w1 br 53 (resC mt V7 M) := (hg2.block br ha1.blk.lt (fun e => by obtain ⟨cs, hb⟩ := hrT _ e.symm; have := ha1.blk.symm.trans hb; first | (simp at this; done) | (simp at this; exact absurd this.2 (by decide)))).trans ha1.blk
             have hoi : OwnI w.heap.size (w2.alloc (.cells #[.int .i64 x.kind, .int .i64 x.item, .int .i64 x.other, .int .i64 x.n, .int .i64 x.by_, .bool x.always, .slice A3 x.machines.length c3] 62)) (.slice A3 x.machines.length c3) x.machines := own_lowerD (HO2.out.alloc _) (by have := HSZ.out; simp; omega)
             have hrm := ha1.rm.rule (x := ((x, A3, c3) : RuV)) HU1.out (fun y hy => (HU3.out y hy).below hbb) ho1 hg2 hrT hoi
             have had := AD.put (mt := mt) (V' := ⟨V7.s, V7.f, V7.r, V7.m, V7.l, V7.i, v1⟩) (m' := ⟨M.sT, M.fT, M.rT, M.mT, M.lT, M.iT, M.dT, M.oT, M.vT, M.aT, M.uT ++ [x]⟩) hb2 HAD.out.hB hrm (i := 11) (u := v1) rfl
             have f3 := hb2.frozen 11
             have q3 : w1.cell? ⟨br, 11, none⟩ = some V7.u := hb2.cell 11
             have l3 := hb2.lt
             have hkr := KX.row hg2 hrT (by decide)
             have HK4 := hide (HK3.out.trans hkr)
             have HK5 := hide (HK4.out.trans (KX.set_ hb2 (by decide) 11 v1))
             have hbw : Below w.heap.size w7 (w1.setCell ⟨br, 11, none⟩ v1) := ((hbb.mono HSZ.out).grown hg2 (by have := hbb.size; have := HSZ.out; omega) hlo).setCell (p := ⟨br, 11, none⟩) HAD.out.hB v1
             have HFIN := hide (HS7.out.next hlt (by rw [← HD.out, HAM.out]; exact had) hbw HK5.out)
             obtain ⟨A9, c9, e9, _, _⟩ := ho1.form
             obtain ⟨n9, hn9⟩ : ∃ n9, n9 = (LU ++ [((x, A3, c3) : RuV)]).length := ⟨_, rfl⟩
             rw [← hn9] at e9
             subst e9
             clear hn9 ho1 hg1 hv1 hbb ha1 hg2 hrT hlo hb2 hrm had hbw hi2 hoi hkr
             (try dsimp only)
             refine hK.out _ _ (HSK.out _ HK4.out) (fun hHeld => ?_)
             clear hK K
             refine wpAnyH_take (i := 11) (oi := _) (v := ?_) rfl (by kernel_rfl) (by kernel_rfl) (by kernel_rfl) (fun _ _ _ h => h) (Or.inl ⟨by rfl, ?_⟩) hHeld ?_
             rotate_left
             · intro W hSw; (try dsimp only at hSw); go_simp; try with_reducible rfl
             simp only [Act.put, List.getElem_toArray, List.getElem_cons_succ, List.getElem_cons_zero, List.setIfInBounds_toArray, List.set_cons_zero, List.set_cons_succ]
             refine wpAnyH_take (i := 12) (oi := _) (v := ?_) rfl (by kernel_rfl) (by kernel_rfl) (by kernel_rfl) (fun _ _ _ h => h) (Or.inl ⟨by rfl, ?_⟩) hHeld ?_
             rotate_left
             · intro W hSw; (try dsimp only at hSw); go_simp; try with_reducible rfl
             simp only [Act.put, List.getElem_toArray, List.getElem_cons_succ, List.getElem_cons_zero, List.setIfInBounds_toArray, List.set_cons_zero, List.set_cons_succ]
             refine wpAnyH_take (i := 13) (oi := _) (v := ?_) rfl (by kernel_rfl) (by kernel_rfl) (by kernel_rfl) (fun _ _ _ h => h) (Or.inl ⟨by rfl, ?_⟩) hHeld ?_
             rotate_left
             · intro W hSw; (try dsimp only at hSw); go_simp; try with_reducible rfl
             simp only [Act.put, List.getElem_toArray, List.getElem_cons_succ, List.getElem_cons_zero, List.setIfInBounds_toArray, List.set_cons_zero, List.set_cons_succ]
             refine wpAnyH_ready (rs := [14]) (by kernel_rfl) (by simp) ?_
             refine AllReadyH.cons rfl (fun K hK => ?_) AllReadyH.nil
             go_simp
             refine hK.out _ _ (HSK.out _ HK5.out) (fun hHeld => ?_)
             clear hK K
             refine wpAnyH_done (by kernel_rfl) ?_ _
             have hl5 := HL.out
             go_wp2_with fail
             go_roundw
             case rel => exact ⟨k + 1, by omega, by go_num, by rw [HDK.out, ← HD2.out], HNO, HFIN⟩
             case measure => simp [intOf]; omega
           · go_simp
             go_at_call 27
             refine HUN.out.mono ?_
             rintro e w2 ⟨A3, c3, rfl, ho2, hb2⟩
             dsimp only [cellsRu]
             have HO2 := hide ho2
             have HB2 := hide (show Below w7.heap.size w7 w2 from ((Below.refl _ w7).drew).trans hb2)
             have HK2 := hide (KX.of_below HB2.out)
             have HK3 := hide (HK2.out.trans (KX.of_below ((Below.refl _ w2).alloc (Nat.le_refl _) (.cells #[.int .i64 x.kind, .int .i64 x.item, .int .i64 x.other, .int .i64 x.n, .int .i64 x.by_, .bool x.always, .slice A3 x.machines.length c3] 62))))
             have old2 : w2.cell? ⟨br, 11, none⟩ = some (.slice A0 nL c0) := (HB2.out.cell (p := ⟨br, 11, none⟩) cl).trans old
             have cl2 : br < w2.heap.size := Nat.lt_of_lt_of_le cl HB2.out.size
             clear ho2 hb2
             (try dsimp only)
             refine hK.out _ _ (HSK.out _ HK2.out) (fun hHeld => ?_)
             clear hK K
             refine wpAnyH_ready (rs := [5, 9]) (by kernel_rfl) (by simp) ?_
             refine AllReadyH.cons rfl (fun K hK => ?_) (AllReadyH.cons rfl (fun K hK => ?_) AllReadyH.nil)
             · go_simp
               refine hK.out _ _ (HSK.out _ HK2.out) (fun hHeld => ?_)
               clear hK K
               refine wpAnyH_ready (rs := [9]) (by kernel_rfl) (by simp) ?_
               refine AllReadyH.cons rfl (fun K hK => ?_) AllReadyH.nil
               go_simp
               refine hK.out _ _ (HSK.out _ HK3.out) (fun hHeld => ?_)
               clear hK K
               refine wpAnyH_ready (rs := [10]) (by kernel_rfl) (by simp) ?_
               refine AllReadyH.cons rfl (fun K hK => ?_) AllReadyH.nil
               refine step_append_el okRule rfl _ _ rfl w.heap.size (.slice A0 nL c0) LU rfl ((show OwnE_ elRule w.heap.size w7 (.slice A0 nL c0) LU from by rw [HNL.out, ← HER.out]; exact HU2.out).below (HB2.out.alloc HB2.out.size _)) _ _ 1 1 [((x, A3, c3) : RuV)] rfl (Reads.newE (E := elRule) w2 ((x, A3, c3) : RuV)) rfl (by rw [← HNL.out]; have := HLL.out; simp; omega) (by have := HB2.out.size; have := HSZ.out; simp; omega) ?_
               intro v1 w1 ho1 hg1 hv1
               have hbb := HB2.out.alloc HB2.out.size (.cells #[.int .i64 x.kind, .int .i64 x.item, .int .i64 x.other, .int .i64 x.n, .int .i64 x.by_, .bool x.always, .slice A3 x.machines.length c3] 62)
               have ha1 := HAD.out.below hbb
               have hg2 : (w2.alloc (.cells #[.int .i64 x.kind, .int .i64 x.item, .int .i64 x.other, .int .i64 x.n, .int .i64 x.by_, .bool x.always, .slice A3 x.machines.length c3] 62)).grownBy w1 V7.u.ownBlock := by rw [HER.out, ← HNL.out]; exact ⟨hg1.os, hg1.tape, hg1.output, hg1.size, hg1.block⟩
               have hi2 := HU2.out.below hbb
               have hrT : RowT (w2.alloc (.cells #[.int .i64 x.kind, .int .i64 x.item, .int .i64 x.other, .int .i64 x.n, .int .i64 x.by_, .bool x.always, .slice A3 x.machines.length c3] 62)) V7.u.ownBlock 62 := RowT.own hi2
               have hlo : ∀ g, V7.u.ownBlock = some g → w.heap.size ≤ g := fun g e => (hi2.lt g e).1
               have hb2 : Blk w1 br 53 (resC mt V7 M) := (hg2.block br ha1.blk.lt (fun e => by obtain ⟨cs, hb⟩ := hrT _ e.symm; have := ha1.blk.symm.trans hb; first | (simp at this; done) | (simp at this; exact absurd this.2 (by decide)))).trans ha1.blk
               have hoi : OwnI w.heap.size (w2.alloc (.cells #[.int .i64 x.kind, .int .i64 x.item, .int .i64 x.other, .int .i64 x.n, .int .i64 x.by_, .bool x.always, .slice A3 x.machines.length c3] 62)) (.slice A3 x.machines.length c3) x.machines := own_lowerD (HO2.out.alloc _) (by have := HSZ.out; simp; omega)
               have hrm := ha1.rm.rule (x := ((x, A3, c3) : RuV)) HU1.out (fun y hy => (HU3.out y hy).below hbb) ho1 hg2 hrT hoi
               have had := AD.put (mt := mt) (V' := ⟨V7.s, V7.f, V7.r, V7.m, V7.l, V7.i, v1⟩) (m' := ⟨M.sT, M.fT, M.rT, M.mT, M.lT, M.iT, M.dT, M.oT, M.vT, M.aT, M.uT ++ [x]⟩) hb2 HAD.out.hB hrm (i := 11) (u := v1) rfl
               have f3 := hb2.frozen 11
               have q3 : w1.cell? ⟨br, 11, none⟩ = some V7.u := hb2.cell 11
               have l3 := hb2.lt
               have hkr := KX.row hg2 hrT (by decide)
               have HK4 := hide (HK3.out.trans hkr)
               have HK5 := hide (HK4.out.trans (KX.set_ hb2 (by decide) 11 v1))
               have hbw : Below w.heap.size w7 (w1.setCell ⟨br, 11, none⟩ v1) := ((hbb.mono HSZ.out).grown hg2 (by have := hbb.size; have := HSZ.out; omega) hlo).setCell (p := ⟨br, 11, none⟩) HAD.out.hB v1
               have HFIN := hide (HS7.out.next hlt (by rw [← HD.out, HAM.out]; exact had) hbw HK5.out)
               obtain ⟨A9, c9, e9, _, _⟩ := ho1.form
               obtain ⟨n9, hn9⟩ : ∃ n9, n9 = (LU ++ [((x, A3, c3) : RuV)]).length := ⟨_, rfl⟩
               rw [← hn9] at e9
               subst e9
               clear hn9 ho1 hg1 hv1 hbb ha1 hg2 hrT hlo hb2 hrm had hbw hi2 hoi hkr
               (try dsimp only)
               refine hK.out _ _ (HSK.out _ HK4.out) (fun hHeld => ?_)
               clear hK K
               refine wpAnyH_take (i := 11) (oi := _) (v := ?_) rfl (by kernel_rfl) (by kernel_rfl) (by kernel_rfl) (fun _ _ _ h => h) (Or.inl ⟨by rfl, ?_⟩) hHeld ?_
               rotate_left
               · intro W hSw; (try dsimp only at hSw); go_simp; try with_reducible rfl
               simp only [Act.put, List.getElem_toArray, List.getElem_cons_succ, List.getElem_cons_zero, List.setIfInBounds_toArray, List.set_cons_zero, List.set_cons_succ]
               refine wpAnyH_take (i := 12) (oi := _) (v := ?_) rfl (by kernel_rfl) (by kernel_rfl) (by kernel_rfl) (fun _ _ _ h => h) (Or.inl ⟨by rfl, ?_⟩) hHeld ?_
               rotate_left
               · intro W hSw; (try dsimp only at hSw); go_simp; try with_reducible rfl
               simp only [Act.put, List.getElem_toArray, List.getElem_cons_succ, List.getElem_cons_zero, List.setIfInBounds_toArray, List.set_cons_zero, List.set_cons_succ]
               refine wpAnyH_take (i := 13) (oi := _) (v := ?_) rfl (by kernel_rfl) (by kernel_rfl) (by kernel_rfl) (fun _ _ _ h => h) (Or.inl ⟨by rfl, ?_⟩) hHeld ?_
               rotate_left
               · intro W hSw; (try dsimp only at hSw); go_simp; try with_reducible rfl
               simp only [Act.put, List.getElem_toArray, List.getElem_cons_succ, List.getElem_cons_zero, List.setIfInBounds_toArray, List.set_cons_zero, List.set_cons_succ]
               refine wpAnyH_ready (rs := [14]) (by kernel_rfl) (by simp) ?_
               refine AllReadyH.cons rfl (fun K hK => ?_) AllReadyH.nil
               go_simp
               refine hK.out _ _ (HSK.out _ HK5.out) (fun hHeld => ?_)
               clear hK K
               refine wpAnyH_done (by kernel_rfl) ?_ _
               have hl5 := HL.out
               go_wp2_with fail
               go_roundw
               case rel => exact ⟨k + 1, by omega, by go_num, by rw [HDK.out, ← HD2.out], HNO, HFIN⟩
               case measure => simp [intOf]; omega
             · go_simp
               refine hK.out _ _ (HSK.out _ HK3.out) (fun hHeld => ?_)
               clear hK K
               refine wpAnyH_ready (rs := [5]) (by kernel_rfl) (by simp) ?_
               refine AllReadyH.cons rfl (fun K hK => ?_) AllReadyH.nil
               go_simp
               refine hK.out _ _ (HSK.out _ HK3.out) (fun hHeld => ?_)
               clear hK K
               refine wpAnyH_ready (rs := [10]) (by kernel_rfl) (by simp) ?_
               refine AllReadyH.cons rfl (fun K hK => ?_) AllReadyH.nil
               refine step_append_el okRule rfl _ _ rfl w.heap.size (.slice A0 nL c0) LU rfl ((show OwnE_ elRule w.heap.size w7 (.slice A0 nL c0) LU from by rw [HNL.out, ← HER.out]; exact HU2.out).below (HB2.out.alloc HB2.out.size _)) _ _ 1 1 [((x, A3, c3) : RuV)] rfl (Reads.newE (E := elRule) w2 ((x, A3, c3) : RuV)) rfl (by rw [← HNL.out]; have := HLL.out; simp; omega) (by have := HB2.out.size; have := HSZ.out; simp; omega) ?_
               intro v1 w1 ho1 hg1 hv1
               have hbb := HB2.out.alloc HB2.out.size (.cells #[.int .i64 x.kind, .int .i64 x.item, .int .i64 x.other, .int .i64 x.n, .int .i64 x.by_, .bool x.always, .slice A3 x.machines.length c3] 62)
               have ha1 := HAD.out.below hbb
               have hg2 : (w2.alloc (.cells #[.int .i64 x.kind, .int .i64 x.item, .int .i64 x.other, .int .i64 x.n, .int .i64 x.by_, .bool x.always, .slice A3 x.machines.length c3] 62)).grownBy w1 V7.u.ownBlock := by rw [HER.out, ← HNL.out]; exact ⟨hg1.os, hg1.tape, hg1.output, hg1.size, hg1.block⟩
               have hi2 := HU2.out.below hbb
               have hrT : RowT (w2.alloc (.cells #[.int .i64 x.kind, .int .i64 x.item, .int .i64 x.other, .int .i64 x.n, .int .i64 x.by_, .bool x.always, .slice A3 x.machines.length c3] 62)) V7.u.ownBlock 62 := RowT.own hi2
               have hlo : ∀ g, V7.u.ownBlock = some g → w.heap.size ≤ g := fun g e => (hi2.lt g e).1
               have hb2 : Blk w1 br 53 (resC mt V7 M) := (hg2.block br ha1.blk.lt (fun e => by obtain ⟨cs, hb⟩ := hrT _ e.symm; have := ha1.blk.symm.trans hb; first | (simp at this; done) | (simp at this; exact absurd this.2 (by decide)))).trans ha1.blk
               have hoi : OwnI w.heap.size (w2.alloc (.cells #[.int .i64 x.kind, .int .i64 x.item, .int .i64 x.other, .int .i64 x.n, .int .i64 x.by_, .bool x.always, .slice A3 x.machines.length c3] 62)) (.slice A3 x.machines.length c3) x.machines := own_lowerD (HO2.out.alloc _) (by have := HSZ.out; simp; omega)
               have hrm := ha1.rm.rule (x := ((x, A3, c3) : RuV)) HU1.out (fun y hy => (HU3.out y hy).below hbb) ho1 hg2 hrT hoi
               have had := AD.put (mt := mt) (V' := ⟨V7.s, V7.f, V7.r, V7.m, V7.l, V7.i, v1⟩) (m' := ⟨M.sT, M.fT, M.rT, M.mT, M.lT, M.iT, M.dT, M.oT, M.vT, M.aT, M.uT ++ [x]⟩) hb2 HAD.out.hB hrm (i := 11) (u := v1) rfl
               have f3 := hb2.frozen 11
               have q3 : w1.cell? ⟨br, 11, none⟩ = some V7.u := hb2.cell 11
               have l3 := hb2.lt
               have hkr := KX.row hg2 hrT (by decide)
               have HK4 := hide (HK3.out.trans hkr)
               have HK5 := hide (HK4.out.trans (KX.set_ hb2 (by decide) 11 v1))
               have hbw : Below w.heap.size w7 (w1.setCell ⟨br, 11, none⟩ v1) := ((hbb.mono HSZ.out).grown hg2 (by have := hbb.size; have := HSZ.out; omega) hlo).setCell (p := ⟨br, 11, none⟩) HAD.out.hB v1
               have HFIN := hide (HS7.out.next hlt (by rw [← HD.out, HAM.out]; exact had) hbw HK5.out)
               obtain ⟨A9, c9, e9, _, _⟩ := ho1.form
               obtain ⟨n9, hn9⟩ : ∃ n9, n9 = (LU ++ [((x, A3, c3) : RuV)]).length := ⟨_, rfl⟩
               rw [← hn9] at e9
               subst e9
               clear hn9 ho1 hg1 hv1 hbb ha1 hg2 hrT hlo hb2 hrm had hbw hi2 hoi hkr
               (try dsimp only)
               refine hK.out _ _ (HSK.out _ HK4.out) (fun hHeld => ?_)
               clear hK K
               refine wpAnyH_take (i := 11) (oi := _) (v := ?_) rfl (by kernel_rfl) (by kernel_rfl) (by kernel_rfl) (fun _ _ _ h => h) (Or.inl ⟨by rfl, ?_⟩) hHeld ?_
               rotate_left
               · intro W hSw; (try dsimp only at hSw); go_simp; try with_reducible rfl
               simp only [Act.put, List.getElem_toArray, List.getElem_cons_succ, List.getElem_cons_zero, List.setIfInBounds_toArray, List.set_cons_zero, List.set_cons_succ]
               refine wpAnyH_take (i := 12) (oi := _) (v := ?_) rfl (by kernel_rfl) (by kernel_rfl) (by kernel_rfl) (fun _ _ _ h => h) (Or.inl ⟨by rfl, ?_⟩) hHeld ?_
               rotate_left
               · intro W hSw; (try dsimp only at hSw); go_simp; try with_reducible rfl
               simp only [Act.put, List.getElem_toArray, List.getElem_cons_succ, List.getElem_cons_zero, List.setIfInBounds_toArray, List.set_cons_zero, List.set_cons_succ]
               refine wpAnyH_take (i := 13) (oi := _) (v := ?_) rfl (by kernel_rfl) (by kernel_rfl) (by kernel_rfl) (fun _ _ _ h => h) (Or.inl ⟨by rfl, ?_⟩) hHeld ?_
               rotate_left
               · intro W hSw; (try dsimp only at hSw); go_simp; try with_reducible rfl
               simp only [Act.put, List.getElem_toArray, List.getElem_cons_succ, List.getElem_cons_zero, List.setIfInBounds_toArray, List.set_cons_zero, List.set_cons_succ]
               refine wpAnyH_ready (rs := [14]) (by kernel_rfl) (by simp) ?_
               refine AllReadyH.cons rfl (fun K hK => ?_) AllReadyH.nil
               go_simp
               refine hK.out _ _ (HSK.out _ HK5.out) (fun hHeld => ?_)
               clear hK K
               refine wpAnyH_done (by kernel_rfl) ?_ _
               have hl5 := HL.out
               go_wp2_with fail
               go_roundw
               case rel => exact ⟨k + 1, by omega, by go_num, by rw [HDK.out, ← HD2.out], HNO, HFIN⟩
               case measure => simp [intOf]; omega
      · have hcb : (ce != 0) = true := by simpa using hc0
        have HMR := hide (show mr = (zeroM, (k : Int), ce) from by
         have hcr : checkR l = some (k, ce) := by
          unfold checkR
          have hf : (fun i => match l[i]? with | some d => checkE l d | none => 0) k = ce := by
           simp only [List.getElem?_eq_getElem hlt]; rw [← HD.out]; exact HCEE.out.symm
          rw [← hf]
          refine firstBad_at hlt (fun h => hc0 (hf.symm.trans h)) fun j hj => ?_
          have hjl : j < l.length := by omega
          simp only [List.getElem?_eq_getElem hjl]
          exact hno.out j hjl hj
         rw [HMR2.out, hcr])
        clear hc0
        go_wp2_with (go_at_call 25; refine HCK.out.mono ?_; rintro e w7 ⟨rfl, hb7⟩
                     have HBW := hide (HS6.out.b.trans (hb7.mono HS6.out.b.size))
                     have HZW := hide (HS6.out.z.below hb7 HS6.out.z.lt)
                     obtain ⟨⟨q0, t0⟩, f0⟩ := mod_cells HZW.out 0 (by decide)
                     obtain ⟨⟨q1, t1⟩, f1⟩ := mod_cells HZW.out 1 (by decide)
                     obtain ⟨⟨q2, t2⟩, f2⟩ := mod_cells HZW.out 2 (by decide)
                     obtain ⟨⟨q3, t3⟩, f3⟩ := mod_cells HZW.out 3 (by decide)
                     obtain ⟨⟨q4, t4⟩, f4⟩ := mod_cells HZW.out 4 (by decide)
                     obtain ⟨⟨q5, t5⟩, f5⟩ := mod_cells HZW.out 5 (by decide)
                     obtain ⟨⟨q6, t6⟩, f6⟩ := mod_cells HZW.out 6 (by decide)
                     obtain ⟨⟨q7, t7⟩, f7⟩ := mod_cells HZW.out 7 (by decide)
                     obtain ⟨⟨q8, t8⟩, f8⟩ := mod_cells HZW.out 8 (by decide)
                     obtain ⟨⟨q9, t9⟩, f9⟩ := mod_cells HZW.out 9 (by decide)
                     obtain ⟨⟨q10, t10⟩, f10⟩ := mod_cells HZW.out 10 (by decide)
                     have tl := HZW.out.lt
                     clear hb7)
        refine bodyPost_ret (ret_mod rfl _ _ w.heap.size zeroMo rfl (((((((((((HZW.out.set_ 0 _).set_ 1 _).set_ 2 _).set_ 3 _).set_ 4 _).set_ 5 _).set_ 6 _).set_ 7 _).set_ 8 _).set_ 9 _).set_ 10 _) rfl) rfl ?_
        rw [HMR.out]
        exact ModR.zero (((((((((((HBW.out.setCell (Nat.le_refl _) _).setCell (Nat.le_refl _) _).setCell (Nat.le_refl _) _).setCell (Nat.le_refl _) _).setCell (Nat.le_refl _) _).setCell (Nat.le_refl _) _).setCell (Nat.le_refl _) _).setCell (Nat.le_refl _) _).setCell (Nat.le_refl _) _).setCell (Nat.le_refl _) _).setCell (Nat.le_refl _) _)
    · obtain rfl : k = l.length := by omega
      have hcr : checkR l = none := by
       unfold checkR
       rw [firstBad_none]
       intro j hj
       simp only [List.getElem?_eq_getElem hj]
       exact hno.out j hj hj
      have HMR3 := hide (show mr = if l.any (fun d => decide (d.kind = 8)) = false then (zeroM, (l.length : Int), 6) else if validM (buildM l) = false then (zeroM, (l.length : Int), 2) else (buildM l, 0, 0) from by rw [HMR2.out, hcr])
      have hda : dark = l.any (fun d => decide (d.kind = 8)) := by
       rw [HDA.out, List.take_length]; rfl
      have hS := hS.out
      obtain ⟨V7, hAD7⟩ := hS.d
      rw [List.take_length] at hAD7
      have hAD7 : AD w.heap.size br mt w5 V7 (buildM l) := hAD7
      obtain ⟨hh, hVe, hmd, hk1, hk2, hk3⟩ := hAD7.rm.md
      have HMD := hide (And.intro hmd (And.intro hk1 (And.intro hk2 hk3)))
      have HVM := hide (validM_any hh (buildM l) w5 hmd hk1 hk2 hk3 (HAS.out.below (Nat.le_refl _) hS.b))
      have hrm7 := hAD7.rm
      rw [hVe] at hrm7
      have HRM := hide hrm7
      have hbk := hAD7.blk
      rw [hVe] at hbk
      have HBK := hide hbk
      have HZ5 := hide hS.z
      have HB5 := hide hS.b
      clear hcr hno hS hAD7 hrm7 hVe hmd hk1 hk2 hk3 hbk HMR2
      cases dark with
      | false =>
        have HMR := hide (show mr = (zeroM, (l.length : Int), 6) from by rw [HMR3.out, ← hda]; rfl)
        have HZW := HZ5
        have HBW := HB5
        obtain ⟨⟨q0, t0⟩, f0⟩ := mod_cells HZW.out 0 (by decide)
        obtain ⟨⟨q1, t1⟩, f1⟩ := mod_cells HZW.out 1 (by decide)
        obtain ⟨⟨q2, t2⟩, f2⟩ := mod_cells HZW.out 2 (by decide)
        obtain ⟨⟨q3, t3⟩, f3⟩ := mod_cells HZW.out 3 (by decide)
        obtain ⟨⟨q4, t4⟩, f4⟩ := mod_cells HZW.out 4 (by decide)
        obtain ⟨⟨q5, t5⟩, f5⟩ := mod_cells HZW.out 5 (by decide)
        obtain ⟨⟨q6, t6⟩, f6⟩ := mod_cells HZW.out 6 (by decide)
        obtain ⟨⟨q7, t7⟩, f7⟩ := mod_cells HZW.out 7 (by decide)
        obtain ⟨⟨q8, t8⟩, f8⟩ := mod_cells HZW.out 8 (by decide)
        obtain ⟨⟨q9, t9⟩, f9⟩ := mod_cells HZW.out 9 (by decide)
        obtain ⟨⟨q10, t10⟩, f10⟩ := mod_cells HZW.out 10 (by decide)
        have tl := HZW.out.lt
        clear hda
        go_wp2_with fail
        refine bodyPost_ret (ret_mod rfl _ _ w.heap.size zeroMo rfl (((((((((((HZW.out.set_ 0 _).set_ 1 _).set_ 2 _).set_ 3 _).set_ 4 _).set_ 5 _).set_ 6 _).set_ 7 _).set_ 8 _).set_ 9 _).set_ 10 _) rfl) rfl ?_
        rw [HMR.out]
        exact ModR.zero (((((((((((HBW.out.setCell (Nat.le_refl _) _).setCell (Nat.le_refl _) _).setCell (Nat.le_refl _) _).setCell (Nat.le_refl _) _).setCell (Nat.le_refl _) _).setCell (Nat.le_refl _) _).setCell (Nat.le_refl _) _).setCell (Nat.le_refl _) _).setCell (Nat.le_refl _) _).setCell (Nat.le_refl _) _).setCell (Nat.le_refl _) _)
      | true =>
        obtain ⟨m, hm⟩ : ∃ m, m = buildM l := ⟨_, rfl⟩
        rw [← hm] at HVM HMD HBK HMR3
        have hr5 : RM w.heap.size w5 ⟨.slice hh.s m.sT.length hh.sc, .slice hh.f m.fT.length hh.fc, .slice hh.r m.rT.length hh.rc, .slice hh.m m.mT.length hh.mc, .slice hh.l m.lT.length hh.lc, .slice hh.i m.iT.length hh.ic, .slice hh.u m.uT.length hh.uc⟩ m := by rw [hm]; exact HRM.out
        have HR5 := hide hr5
        have HDT := hide (show l.any (fun d => decide (d.kind = 8)) = true from hda.symm)
        have HMR4 := hide (show mr = if validM m = false then (zeroM, (l.length : Int), 2) else (m, 0, 0) from by rw [HMR3.out, HDT.out]; rfl)
        obtain ⟨vb, hvb⟩ : ∃ vb, vb = validM m := ⟨_, rfl⟩
        rw [← hvb] at HVM HMR4
        clear hr5 hda hm hvb HMR3
        have k1 : w5.cell? ⟨br, 1, none⟩ = some (.slice hh.s m.sT.length hh.sc) := HBK.out.cell 1
        have k2 : w5.cell? ⟨br, 2, none⟩ = some (.slice hh.f m.fT.length hh.fc) := HBK.out.cell 2
        have k3 : w5.cell? ⟨br, 3, none⟩ = some (.slice hh.r m.rT.length hh.rc) := HBK.out.cell 3
        have k4 : w5.cell? ⟨br, 4, none⟩ = some (.slice hh.m m.mT.length hh.mc) := HBK.out.cell 4
        have k5 : w5.cell? ⟨br, 5, none⟩ = some (.slice hh.l m.lT.length hh.lc) := HBK.out.cell 5
        have k6 : w5.cell? ⟨br, 6, none⟩ = some (.slice hh.i m.iT.length hh.ic) := HBK.out.cell 6
        have k7 : w5.cell? ⟨br, 7, none⟩ = some (.int .i64 m.dT) := HBK.out.cell 7
        have k8 : w5.cell? ⟨br, 8, none⟩ = some (.int .i64 m.oT) := HBK.out.cell 8
        have k9 : w5.cell? ⟨br, 9, none⟩ = some (.int .i64 m.vT) := HBK.out.cell 9
        have k10 : w5.cell? ⟨br, 10, none⟩ = some (.int .i64 m.aT) := HBK.out.cell 10
        have k11 : w5.cell? ⟨br, 11, none⟩ = some (.slice hh.u m.uT.length hh.uc) := HBK.out.cell 11
        have kl := HBK.out.lt
        cases vb with
        | false =>
          have HMR := hide (show mr = (zeroM, (l.length : Int), 2) from by rw [HMR4.out]; rfl)
          clear HMR4
          go_wp2_with (go_at_call 28; refine HVM.out.mono ?_; rintro e w6 ⟨rfl, hb6⟩
                       have HBW := hide (HB5.out.trans (hb6.mono HB5.out.size))
                       have HZW := hide (HZ5.out.below hb6 HZ5.out.lt)
                       obtain ⟨⟨q0, t0⟩, f0⟩ := mod_cells HZW.out 0 (by decide)
                       obtain ⟨⟨q1, t1⟩, f1⟩ := mod_cells HZW.out 1 (by decide)
                       obtain ⟨⟨q2, t2⟩, f2⟩ := mod_cells HZW.out 2 (by decide)
                       obtain ⟨⟨q3, t3⟩, f3⟩ := mod_cells HZW.out 3 (by decide)
                       obtain ⟨⟨q4, t4⟩, f4⟩ := mod_cells HZW.out 4 (by decide)
                       obtain ⟨⟨q5, t5⟩, f5⟩ := mod_cells HZW.out 5 (by decide)
                       obtain ⟨⟨q6, t6⟩, f6⟩ := mod_cells HZW.out 6 (by decide)
                       obtain ⟨⟨q7, t7⟩, f7⟩ := mod_cells HZW.out 7 (by decide)
                       obtain ⟨⟨q8, t8⟩, f8⟩ := mod_cells HZW.out 8 (by decide)
                       obtain ⟨⟨q9, t9⟩, f9⟩ := mod_cells HZW.out 9 (by decide)
                       obtain ⟨⟨q10, t10⟩, f10⟩ := mod_cells HZW.out 10 (by decide)
                       have tl := HZW.out.lt
                       clear hb6)
          refine bodyPost_ret (ret_mod rfl _ _ w.heap.size zeroMo rfl (((((((((((HZW.out.set_ 0 _).set_ 1 _).set_ 2 _).set_ 3 _).set_ 4 _).set_ 5 _).set_ 6 _).set_ 7 _).set_ 8 _).set_ 9 _).set_ 10 _) rfl) rfl ?_
          rw [HMR.out]
          exact ModR.zero (((((((((((HBW.out.setCell (Nat.le_refl _) _).setCell (Nat.le_refl _) _).setCell (Nat.le_refl _) _).setCell (Nat.le_refl _) _).setCell (Nat.le_refl _) _).setCell (Nat.le_refl _) _).setCell (Nat.le_refl _) _).setCell (Nat.le_refl _) _).setCell (Nat.le_refl _) _).setCell (Nat.le_refl _) _).setCell (Nat.le_refl _) _)
        | true =>
          have HMR := hide (show mr = (m, 0, 0) from by rw [HMR4.out]; rfl)
          clear HMR4
          go_wp2_with (go_at_call 28; refine HVM.out.mono ?_; rintro e w6 ⟨rfl, hb6⟩
                       have HBW := hide (HB5.out.trans (hb6.mono HB5.out.size))
                       have HZW := hide (HZ5.out.below hb6 HZ5.out.lt)
                       have HR6 := hide (HR5.out.below hb6)
                       have HBK6 := hide (HBK.out.below hb6 HBK.out.lt)
                       have j1 : w6.cell? ⟨br, 1, none⟩ = some (.slice hh.s m.sT.length hh.sc) := HBK6.out.cell 1
                       have j2 : w6.cell? ⟨br, 2, none⟩ = some (.slice hh.f m.fT.length hh.fc) := HBK6.out.cell 2
                       have j3 : w6.cell? ⟨br, 3, none⟩ = some (.slice hh.r m.rT.length hh.rc) := HBK6.out.cell 3
                       have j4 : w6.cell? ⟨br, 4, none⟩ = some (.slice hh.m m.mT.length hh.mc) := HBK6.out.cell 4
                       have j5 : w6.cell? ⟨br, 5, none⟩ = some (.slice hh.l m.lT.length hh.lc) := HBK6.out.cell 5
                       have j6 : w6.cell? ⟨br, 6, none⟩ = some (.slice hh.i m.iT.length hh.ic) := HBK6.out.cell 6
                       have j7 : w6.cell? ⟨br, 7, none⟩ = some (.int .i64 m.dT) := HBK6.out.cell 7
                       have j8 : w6.cell? ⟨br, 8, none⟩ = some (.int .i64 m.oT) := HBK6.out.cell 8
                       have j9 : w6.cell? ⟨br, 9, none⟩ = some (.int .i64 m.vT) := HBK6.out.cell 9
                       have j10 : w6.cell? ⟨br, 10, none⟩ = some (.int .i64 m.aT) := HBK6.out.cell 10
                       have j11 : w6.cell? ⟨br, 11, none⟩ = some (.slice hh.u m.uT.length hh.uc) := HBK6.out.cell 11
                       have jl := HBK6.out.lt
                       obtain ⟨⟨q0, t0⟩, f0⟩ := mod_cells HZW.out 0 (by decide)
                       obtain ⟨⟨q1, t1⟩, f1⟩ := mod_cells HZW.out 1 (by decide)
                       obtain ⟨⟨q2, t2⟩, f2⟩ := mod_cells HZW.out 2 (by decide)
                       obtain ⟨⟨q3, t3⟩, f3⟩ := mod_cells HZW.out 3 (by decide)
                       obtain ⟨⟨q4, t4⟩, f4⟩ := mod_cells HZW.out 4 (by decide)
                       obtain ⟨⟨q5, t5⟩, f5⟩ := mod_cells HZW.out 5 (by decide)
                       obtain ⟨⟨q6, t6⟩, f6⟩ := mod_cells HZW.out 6 (by decide)
                       obtain ⟨⟨q7, t7⟩, f7⟩ := mod_cells HZW.out 7 (by decide)
                       obtain ⟨⟨q8, t8⟩, f8⟩ := mod_cells HZW.out 8 (by decide)
                       obtain ⟨⟨q9, t9⟩, f9⟩ := mod_cells HZW.out 9 (by decide)
                       obtain ⟨⟨q10, t10⟩, f10⟩ := mod_cells HZW.out 10 (by decide)
                       have tl := HZW.out.lt
                       clear hb6 k1 k2 k3 k4 k5 k6 k7 k8 k9 k10 k11)
          have hr6 := HR6.out
          have b0 := HZW.out
          have r0 := hr6
          have e0 := HBW.out
          have r1 := r0.put b0 (by decide) 0 (.slice hh.s m.sT.length hh.sc)
          have b1 := b0.set_ 0 (.slice hh.s m.sT.length hh.sc)
          have e1 := e0.setCell (p := ⟨w.heap.size, 0, none⟩) (Nat.le_refl _) (.slice hh.s m.sT.length hh.sc)
          clear r0 b0 e0
          have r2 := r1.put b1 (by decide) 1 (.slice hh.f m.fT.length hh.fc)
          have b2 := b1.set_ 1 (.slice hh.f m.fT.length hh.fc)
          have e2 := e1.setCell (p := ⟨w.heap.size, 1, none⟩) (Nat.le_refl _) (.slice hh.f m.fT.length hh.fc)
          clear r1 b1 e1
          have r3 := r2.put b2 (by decide) 2 (.slice hh.r m.rT.length hh.rc)
          have b3 := b2.set_ 2 (.slice hh.r m.rT.length hh.rc)
          have e3 := e2.setCell (p := ⟨w.heap.size, 2, none⟩) (Nat.le_refl _) (.slice hh.r m.rT.length hh.rc)
          clear r2 b2 e2
          have r4 := r3.put b3 (by decide) 3 (.slice hh.m m.mT.length hh.mc)
          have b4 := b3.set_ 3 (.slice hh.m m.mT.length hh.mc)
          have e4 := e3.setCell (p := ⟨w.heap.size, 3, none⟩) (Nat.le_refl _) (.slice hh.m m.mT.length hh.mc)
          clear r3 b3 e3
          have r5 := r4.put b4 (by decide) 4 (.slice hh.l m.lT.length hh.lc)
          have b5 := b4.set_ 4 (.slice hh.l m.lT.length hh.lc)
          have e5 := e4.setCell (p := ⟨w.heap.size, 4, none⟩) (Nat.le_refl _) (.slice hh.l m.lT.length hh.lc)
          clear r4 b4 e4
          have r6 := r5.put b5 (by decide) 5 (.slice hh.i m.iT.length hh.ic)
          have b6 := b5.set_ 5 (.slice hh.i m.iT.length hh.ic)
          have e6 := e5.setCell (p := ⟨w.heap.size, 5, none⟩) (Nat.le_refl _) (.slice hh.i m.iT.length hh.ic)
          clear r5 b5 e5
          have r7 := r6.put b6 (by decide) 6 (.int .i64 m.dT)
          have b7 := b6.set_ 6 (.int .i64 m.dT)
          have e7 := e6.setCell (p := ⟨w.heap.size, 6, none⟩) (Nat.le_refl _) (.int .i64 m.dT)
          clear r6 b6 e6
          have r8 := r7.put b7 (by decide) 7 (.int .i64 m.oT)
          have b8 := b7.set_ 7 (.int .i64 m.oT)
          have e8 := e7.setCell (p := ⟨w.heap.size, 7, none⟩) (Nat.le_refl _) (.int .i64 m.oT)
          clear r7 b7 e7
          have r9 := r8.put b8 (by decide) 8 (.int .i64 m.vT)
          have b9 := b8.set_ 8 (.int .i64 m.vT)
          have e9 := e8.setCell (p := ⟨w.heap.size, 8, none⟩) (Nat.le_refl _) (.int .i64 m.vT)
          clear r8 b8 e8
          have r10 := r9.put b9 (by decide) 9 (.int .i64 m.aT)
          have b10 := b9.set_ 9 (.int .i64 m.aT)
          have e10 := e9.setCell (p := ⟨w.heap.size, 9, none⟩) (Nat.le_refl _) (.int .i64 m.aT)
          clear r9 b9 e9
          have r11 := r10.put b10 (by decide) 10 (.slice hh.u m.uT.length hh.uc)
          have b11 := b10.set_ 10 (.slice hh.u m.uT.length hh.uc)
          have e11 := e10.setCell (p := ⟨w.heap.size, 10, none⟩) (Nat.le_refl _) (.slice hh.u m.uT.length hh.uc)
          clear r10 b10 e10
          simp only [zeroMo, List.setIfInBounds_toArray, List.set_cons_zero, List.set_cons_succ] at b11
          refine bodyPost_ret (ret_mod rfl _ _ w.heap.size #[.slice hh.s m.sT.length hh.sc, .slice hh.f m.fT.length hh.fc, .slice hh.r m.rT.length hh.rc, .slice hh.m m.mT.length hh.mc, .slice hh.l m.lT.length hh.lc, .slice hh.i m.iT.length hh.ic, .int .i64 m.dT, .int .i64 m.oT, .int .i64 m.vT, .int .i64 m.aT, .slice hh.u m.uT.length hh.uc] rfl b11 rfl) rfl ?_
          obtain ⟨q1, q2, q3, q4⟩ := r11.md2 rfl
          rw [HMR.out]
          exact ⟨hh, m, rfl, rfl, q1, q2, q3, q4, e11⟩
end Go.Proofs.YtcfogipaadhbeaaGreatDoor
