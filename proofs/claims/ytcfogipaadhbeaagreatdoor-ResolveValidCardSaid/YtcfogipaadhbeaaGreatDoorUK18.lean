/- A part of the claim: see its last text. -/
import Derived.Test.YtcfogipaadhbeaaGreatDoorUK11
import Derived.Test.YtcfogipaadhbeaaGreatDoorUK06
import Derived.Test.YtcfogipaadhbeaaGreatDoorUK17
import Derived.Deep.CutRange
import Derived.Deep.CutBlock

set_option maxRecDepth 100000
set_option maxHeartbeats 16000000
namespace Go.Proofs.YtcfogipaadhbeaaGreatDoor
open Go Go.RowKit Go.Proofs
theorem Kc.trans {a b c : World} (h : Kc a b) (k : Kc b c) : Kc a c := ⟨Nat.le_trans h.size k.size, fun g T cs hB => k.blk g T cs (h.blk g T cs hB)⟩
theorem Kc.drew {a b : World} (h : Kc a b) : Kc a b.drew := ⟨h.size, h.blk⟩
theorem Km.trans {a b c : World} (h : Km a b) (k : Km b c) : Km a c := ⟨Nat.le_trans h.size k.size, fun g hg => (k.blk g (Nat.lt_of_lt_of_le hg h.size)).trans (h.blk g hg)⟩
theorem zero_i19 (w : World) : (zeroValue 3).run Tryz.prog w = .ok (.int .i64 0) w := by kernel_rfl
theorem zero_b19 (w : World) : (zeroValue 4).run Tryz.prog w = .ok (.bool false) w := by kernel_rfl
structure CS (B : Nat) (w : World) (mt : Nat) (l : List Decl) (k : Nat) (wr : World) : Prop where
 b : Below B w wr
 kc : Kc w wr
 t : AM keyStr wr mt (thL (thgs l k))
 c : ∃ lc, AM keyInt wr w.heap.size lc ∧ ∀ s, (getA lc s).getD (.int .i64 0) = .int .i64 (cntS (l.take k) s : Nat)
 o : ∃ lo, AM keyInt wr (w.heap.size + 1) lo ∧ ∀ s, (getA lo s).getD (.bool false) = .bool ((l.take k).any (kdB s))
theorem CS.grow {B : Nat} {w wr w2 : World} {mt : Nat} {l : List Decl} {k : Nat} (h : CS B w mt l k wr) (hB : B ≤ w.heap.size) (hb : Below wr.heap.size wr w2) : CS B w mt l k w2 := by
 obtain ⟨lc, c1, c2⟩ := h.c
 obtain ⟨lo, o1, o2⟩ := h.o
 exact ⟨h.b.trans (hb.mono (Nat.le_trans hB h.kc.size)), h.kc.trans (Kc.of_below hb), h.t.keep (hb.block mt h.t.lt), ⟨lc, c1.keep (hb.block _ c1.lt), c2⟩, ⟨lo, o1.keep (hb.block _ o1.lt), o2⟩⟩
theorem CS.start {B : Nat} {w : World} {mt : Nat} {l : List Decl} (hB : B ≤ w.heap.size) (hm : AM keyStr w mt []) : CS B w mt l 0 ((w.alloc (.map #[] 0)).alloc (.map #[] 0)) := by
 have h1 : Below w.heap.size w (w.alloc (.map #[] 0)) := (Below.refl _ _).alloc (Nat.le_refl _) _
 have h2 : Below (w.alloc (.map #[] 0)).heap.size (w.alloc (.map #[] 0)) ((w.alloc (.map #[] 0)).alloc (.map #[] 0)) := (Below.refl _ _).alloc (Nat.le_refl _) _
 have h3 := h1.trans (h2.mono h1.size)
 refine ⟨h3.mono hB, Kc.of_below h3, hm.keep (h3.block _ hm.lt), ⟨[], (AM.new w).keep (h2.block _ (by simp)), fun s => by simp [getA, cntS]⟩, ⟨[], ?_, fun s => by simp [getA]⟩⟩
 have := AM.new (K := keyInt) (w.alloc (.map #[] 0))
 rw [World.size_alloc] at this
 exact this
theorem CS.once {B : Nat} {w W : World} {mt : Nat} {l : List Decl} {k : Nat} (h : CS B w mt l k W) (hB : B ≤ w.heap.size) (hk : k < l.length) (hmt : mt < w.heap.size) (_hl : l.length ≤ 1000000) :
    ∃ W2 W3, (Instr.mapUpdate 87 (.map (some (w.heap.size + 1))) (.int .i64 l[k].kind) (.bool true)).run Tryz.prog W = .ok () W2 ∧
     (Instr.lookup 86 (.map (some w.heap.size)) (.int .i64 (sectI l[k].kind)) false).run Tryz.prog W2 = .ok (.int .i64 (cntS (l.take k) (sectI l[k].kind) : Nat)) W2 ∧
     (Instr.mapUpdate 86 (.map (some w.heap.size)) (.int .i64 (sectI l[k].kind)) (.int .i64 (((cntS (l.take k) (sectI l[k].kind) : Nat) : Int) + 1))).run Tryz.prog W2 = .ok () W3 ∧ Kc W W2 ∧ Kc W2 W3 ∧ Below B w W3 ∧ Kc w W3 ∧ AM keyStr W3 mt (thL (thgs l k)) ∧
     (∃ lc, AM keyInt W3 w.heap.size lc ∧ ∀ s, (getA lc s).getD (.int .i64 0) = .int .i64 (cntS (l.take (k + 1)) s : Nat)) ∧
     (∃ lo, AM keyInt W3 (w.heap.size + 1) lo ∧ ∀ s, (getA lo s).getD (.bool false) = .bool ((l.take (k + 1)).any (kdB s))) := by
 obtain ⟨lc, c1, c2⟩ := h.c
 obtain ⟨lo, o1, o2⟩ := h.o
 obtain ⟨es1, n1, p1, q1⟩ := o1.put (P := Tryz.prog) (t := 87) (KT := 3) (E := 4) Tryz.underlying87 Tryz.underlying3 l[k].kind (.bool true)
 have cW2 : AM keyInt (W.putObj (w.heap.size + 1) (.map es1 n1)) w.heap.size lc := c1.keep (World.putObj_heap_other (by omega))
 have hlk := cW2.look1 (P := Tryz.prog) (t := 86) (KT := 3) (E := 3) Tryz.underlying86 Tryz.underlying3 (zero_i19 _) (sectI l[k].kind)
 obtain ⟨es2, n2, p2, q2⟩ := cW2.put (P := Tryz.prog) (t := 86) (KT := 3) (E := 3) Tryz.underlying86 Tryz.underlying3 (sectI l[k].kind) (.int .i64 (((cntS (l.take k) (sectI l[k].kind) : Nat) : Int) + 1))
 rw [c2] at hlk
 obtain ⟨eo, no, go_, _⟩ := id o1
 obtain ⟨ec, nc, gc, _⟩ := id cW2
 have oW2 : AM keyInt (W.putObj (w.heap.size + 1) (.map es1 n1)) (w.heap.size + 1) (putA lo l[k].kind (.bool true)) := ⟨es1, n1, World.putObj_heap_same o1.lt, q1⟩
 refine ⟨_, _, p1, hlk, p2, Kc.put go_, Kc.put gc, ?_, (h.kc.trans (Kc.put go_)).trans (Kc.put gc), ?_, ⟨_, ⟨es2, n2, World.putObj_heap_same cW2.lt, q2⟩, fun s => ?_⟩, ⟨_, oW2.keep (World.putObj_heap_other (by omega)), fun s => ?_⟩⟩
 · have hBW := Nat.le_trans hB h.kc.size
   exact (h.b.grown (grownBy_putObj' _ _ _) hBW (fun g e => by cases e; omega)).grown (grownBy_putObj' _ _ _) (by simpa [World.putObj] using hBW) (fun g e => by cases e; exact hB)
 · exact (h.t.keep (World.putObj_heap_other (by omega))).keep (World.putObj_heap_other (by omega))
 · rw [getA_put]
   have hcs := cnt_succ (s := s) hk
   by_cases e : sectI l[k].kind = s
   · rw [if_pos e] at hcs ⊢
     rw [hcs, ← e]; rfl
   · rw [if_neg e] at hcs ⊢
     rw [hcs, c2]
 · rw [getA_put, any_succ hk]
   by_cases e : l[k].kind = s
   · rw [if_pos e]
     simp [kdB, e]
   · rw [if_neg e, o2]
     simp [kdB, e]
def CollR (B : Nat) (w : World) (mt : Nat) (l : List Decl) (e : Ending) (w' : World) : Prop :=
 (match collectR l with | some x => e = .returned (.tuple #[.int .i64 (x.1 : Nat), .int .i64 x.2]) | none => e = .returned (.tuple #[.int .i64 0, .int .i64 0]) ∧ AM keyStr w' mt (thL (thgs l l.length))) ∧ Below B w w' ∧ Kc w w'
theorem CollR.bad {B : Nat} {w w' : World} {mt : Nat} {l : List Decl} {k : Nat} {e : Int} (h : collectR l = some (k, e)) (hb : Below B w w') (hk : Kc w w') : CollR B w mt l (.returned (.tuple #[.int .i64 (k : Nat), .int .i64 e])) w' := by
 unfold CollR
 rw [h]
 exact ⟨rfl, hb, hk⟩
theorem collect_prog (B br mt : Nat) (A : Option Addr) (c : Nat) (l : List Decl) (w : World) (hA : ∀ W, Below B w W → Asc W) (h : Decls w B A l) (hl : l.length ≤ 1000000) (hB : B ≤ w.heap.size) (hc : w.cell? ⟨br, 0, none⟩ = some (.map (some mt))) {cs : Array Value} {T : TypeId} (hbr : Blk w br T cs) (hmB : B ≤ mt) (hm : AM keyStr w mt []) :
    Calls Tryz.prog 23 #[.pointer (some ⟨br, 0, none⟩), .slice A l.length c] w (CollR B w mt l) := by
 have H := hide h
 have HAS := hide hA
 have HC0 := hide (And.intro hc hbr)
 have HBB := hide hB
 have HMB := hide hmB
 have HML := hide hm.lt
 have HS0 := hide (CS.start (l := l) hB hm)
 have hmm := @run_makeMap Tryz.prog
 clear h hA hc hbr hB hmB hm
 go_enter Tryz.func23, Tryz.ntmps23
 go_wp2_with fail
 obtain ⟨mc, hmc⟩ : ∃ mc, mc = w.heap.size := ⟨_, rfl⟩
 obtain ⟨mo, hmo⟩ : ∃ mo, mo = w.heap.size + 1 := ⟨_, rfl⟩
 rw [← hmo, ← hmc]
 have HMC := hide (And.intro hmc hmo)
 clear hmc hmo hmm
 go_loopw [17] (fun i wr => ∃ k : Nat, k ≤ l.length ∧ i = .int .i64 k ∧ Hid (∀ j (_ : j < l.length), j < k → firstE (l.take j) l[j] = 0) ∧ Hid (CS B w mt l k wr)) (fun i _ => l.length - (intOf i).toNat)
 case atStart => exact ⟨0, Nat.zero_le _, rfl, hide (fun j _ h0 => absurd h0 (by omega)), HS0⟩
 case round =>
  clear HS0
  obtain ⟨k, hk, rfl, hno, hS⟩ := hrel
  rename World => w5
  by_cases hlt : k < l.length
  · obtain ⟨b, o, ra, rc, na, nc, hAd, hbl, x0, x1, x2, x3, x4, x5, _, hr, hn, hfine⟩ := (H.out.below hS.out.b).at2_ hlt
    have HFD := hide hfine
    have HST := hide (And.intro hr hn)
    obtain ⟨d, hd⟩ : ∃ d, d = l[k] := ⟨_, rfl⟩
    have HD := hide hd
    rw [← hd] at x0 x1 x2 x3 x4 x5 HFD HST
    have hltI : (k : Int) < (l.length : Int) := by omega
    obtain ⟨dcs, hdcs⟩ : ∃ dcs : Array Value, dcs = #[.int .i64 d.kind, .string d.name, .slice ra d.refs.length rc, .slice na d.nums.length nc, .int .i64 d.by_, .bool d.always] := ⟨_, rfl⟩
    have HDC := hide hdcs
    have hb6 : Below w5.heap.size w5 (w5.alloc (.cells dcs 43)) := (Below.refl _ _).alloc (Nat.le_refl _) _
    have HX6 := hide (Blk.new w5 43 dcs)
    have HS6 := hide (hS.out.grow HBB.out hb6)
    obtain ⟨bd, hbd⟩ : ∃ bd, bd = w5.heap.size := ⟨_, rfl⟩
    rw [← hbd] at HX6
    have HBD := hide hbd
    rw [hdcs] at hb6 HX6 HS6
    subst hAd
    clear hd hr hn hfine hb6 hdcs hbd
    go_upto_region 5 with (fail)
    rw [← HBD.out]
    obtain ⟨w6, hw6⟩ : ∃ w6, w6 = w5.alloc (.cells #[.int .i64 d.kind, .string d.name, .slice ra d.refs.length rc, .slice na d.nums.length nc, .int .i64 d.by_, .bool d.always] 43) := ⟨_, rfl⟩
    have HB56 := hide (show Below w5.heap.size w5 w6 from by rw [hw6]; exact (Below.refl _ _).alloc (Nat.le_refl _) _)
    rw [← hw6] at HX6 HS6
    rw [← hw6]
    clear hw6 x0 x1 x2 x3 x4 x5
    have z0 := HX6.out.cell 0
    have z1 := HX6.out.cell 1
    have zl := HX6.out.lt
    have c0 := ((HS6.out.kc.blk _ _ _ HC0.out.2).cell 0).trans ((HC0.out.2.cell 0).symm.trans HC0.out.1)
    have cl := (HS6.out.kc.blk _ _ _ HC0.out.2).lt
    simp at z0 z1
    have hlk := fun (W : World) (hW : W.heap[mt]? = w6.heap[mt]?) => (HS6.out.t.keep hW).look (P := Tryz.prog) (t := 51) (KT := 9) (E := 89) Tryz.underlying51 Tryz.underlying9 (thing_zero W) d.name
    obtain ⟨tk, tn, htk⟩ : ∃ tk tn : Int, (getA (thL (thgs l k)) d.name).getD (thV (0, 0)) = .agg #[.int .i64 tk, .int .i64 tn] := by
     rw [thL_get]
     cases thGet (thgs l k) d.name with
     | none => exact ⟨0, 0, rfl⟩
     | some x => exact ⟨x.1, x.2, rfl⟩
    obtain ⟨used, hus⟩ : ∃ used, used = (getA (thL (thgs l k)) d.name).isSome := ⟨_, rfl⟩
    have HUS := hide hus
    rw [htk, ← hus] at hlk
    have HLK := hide hlk
    have hlk1 : (Instr.lookup 51 (.map (some mt)) (.string d.name) true).run Tryz.prog w6.drew = _ := hlk w6.drew rfl
    have hlk2 : ∀ o, (Instr.lookup 51 (.map (some mt)) (.string d.name) true).run Tryz.prog (w6.alloc o).drew = _ := fun o => hlk (w6.alloc o).drew (Below.heap_alloc w6 o _ HS6.out.t.lt)
    obtain ⟨dk, hdk⟩ : ∃ dk, dk = d.kind := ⟨_, rfl⟩
    obtain ⟨dn, hdn⟩ : ∃ dn, dn = d.name := ⟨_, rfl⟩
    have HDK := hide (And.intro hdk hdn)
    rw [← hdk] at z0
    rw [← hdn] at z1 hlk1
    simp only [← hdn] at hlk2
    clear hus htk hlk hdk hdn
    go_cut [10] from 22 to 30 (fun v wx => v = .bool (decide (dk = 8) || decide (dk = 9)) ∧ wx = w6)
    case first =>
     by_cases s8 : dk = 8
     · have g8 : (dk == 8) = true := by simpa using s8
       go_wp2_with fail
       go_meet
       case rel => exact ⟨by simp [s8], rfl⟩
     · have g8 : (dk == 8) = false := by simpa using s8
       by_cases s9 : dk = 9
       · have g9 : (dk == 9) = true := by simpa using s9
         go_wp2_with fail
         go_meet
         case rel => exact ⟨by simp [s9], rfl⟩
       · have g9 : (dk == 9) = false := by simpa using s9
         go_wp2_with fail
         go_meet
         case rel => exact ⟨by simp [s8, s9], rfl⟩
    case rest =>
     obtain ⟨rfl, hwx⟩ := hcut
     have hwx := hwx.symm
     subst hwx
     obtain ⟨sg, hsg⟩ : ∃ sg, sg = (decide (dk = 8) || decide (dk = 9)) := ⟨_, rfl⟩
     have HSG := hide hsg
     rw [← hsg]
     clear hsg
     go_upto_region 6 with (fail)
     go_cut [12] from 31 to 40 (fun u wx => u = .bool used ∧ Below w6.heap.size w6 wx)
     case first =>
      go_region_held3 (fun W => W.cell? ⟨br, 0, none⟩ = some (.map (some mt)) ∧ W.cell? ⟨bd, 0, none⟩ = some (.int .i64 dk) ∧ W.cell? ⟨bd, 1, none⟩ = some (.string dn)) (go_keep) (fail)
      all_goals
       go_wp2_with fail
       go_meet
       case rel => exact ⟨rfl, ((Below.refl _ w6).alloc (Nat.le_refl _) _).drew⟩
     case rest =>
      obtain ⟨rfl, hb67⟩ := hcut
      rename World => w7
      obtain ⟨e1, e2⟩ := HDK.out
      subst e1 e2
      have HS7 := hide (HS6.out.grow HBB.out hb67)
      have HX7 := hide (HX6.out.below hb67 HX6.out.lt)
      have hB5 : B ≤ w5.heap.size := Nat.le_trans HBB.out hS.out.kc.size
      have hB57 : Below B w5 w7 := (HB56.out.mono hB5).trans (hb67.mono (Nat.le_trans hB5 HB56.out.size))
      have hv := valid_prog d.kind d.name ra d.refs rc na d.nums nc d.by_ d.always w7 (HAS.out w7 HS7.out.b) HFD.out.1 HFD.out.2.1 HFD.out.2.2.1 HFD.out.2.2.2 ((HST.out.1.below hB57).more (Nat.le_trans hB5 hB57.size)) ((HST.out.2.below hB57).more (Nat.le_trans hB5 hB57.size))
      rw [validB_D] at hv
      have HV := hide hv
      obtain ⟨vd, hvd⟩ : ∃ vd, vd = validD d := ⟨_, rfl⟩
      rw [← hvd] at HV
      have HVD := hide hvd
      have z0 := HX7.out.cell 0
      have z1 := HX7.out.cell 1
      have z2 := HX7.out.cell 2
      have z3 := HX7.out.cell 3
      have z4 := HX7.out.cell 4
      have z5 := HX7.out.cell 5
      have zl := HX7.out.lt
      simp at z0 z1 z2 z3 z4 z5
      clear hb67 hB5 hB57 hv hvd hlk1 hlk2 c0 cl
      cases vd with
      | false =>
        have HB7 := hide HS7.out.b
        have HK7 := hide HS7.out.kc
        have HE := hide (collect_bad hlt hno.out (show firstE (l.take k) l[k] = 1 from first_bad (by rw [← HD.out]; exact HVD.out.symm)) (by decide))
        go_wp2_with (go_at_call 49; refine HV.out.mono ?_; rintro e w8 ⟨rfl, hb8⟩; have HB8 := hide hb8; clear hb8)
        go_ret2
        exact CollR.bad HE.out (HB7.out.trans (HB8.out.mono (Nat.le_trans HBB.out HK7.out.size))) (HK7.out.trans (Kc.of_below HB8.out))
      | true =>
        have HB7 := hide HS7.out.b
        have HK7 := hide HS7.out.kc
        obtain ⟨lo, o1, o2⟩ := HS7.out.o
        rw [← HMC.out.2] at o1
        obtain ⟨on, hon⟩ : ∃ on, on = (l.take k).any (kdB d.kind) := ⟨_, rfl⟩
        have HON := hide hon
        have HO1 := hide o1
        have HO2 := hide (o2 d.kind)
        rw [← hon] at HO2
        clear hon o1 o2
        go_upto_region 9 with (go_at_call 49; refine HV.out.mono ?_; rintro e w8 ⟨rfl, hb8⟩; have HB8 := hide hb8; clear hb8)
        have hb8 := HB8.out
        clear HB8
        have HS8 := hide (HS7.out.grow HBB.out hb8)
        have HX8 := hide (HX7.out.below hb8 HX7.out.lt)
        have hlo := (HO1.out.keep (hb8.block _ HO1.out.lt)).look1 (P := Tryz.prog) (t := 87) (KT := 3) (E := 4) Tryz.underlying87 Tryz.underlying3 (zero_b19 w8) d.kind
        rw [HO2.out] at hlo
        have z0 := HX8.out.cell 0
        have z1 := HX8.out.cell 1
        have zl := HX8.out.lt
        have c0 := ((HS8.out.kc.blk _ _ _ HC0.out.2).cell 0).trans ((HC0.out.2.cell 0).symm.trans HC0.out.1)
        have cl := (HS8.out.kc.blk _ _ _ HC0.out.2).lt
        simp at z0 z1
        have hlo2 : (Instr.lookup 87 (.map (some mo)) (.int .i64 d.kind) false).run Tryz.prog w8 = .ok (.bool on) w8 := hlo
        obtain ⟨W2, W3, p1, p2, p3, kc2, kc3, hb3, kw3, ht3, hc3, ho3⟩ := HS8.out.once HBB.out hlt HML.out hl
        rw [← HMC.out.1, ← HD.out] at p2 p3
        rw [← HMC.out.2, ← HD.out] at p1
        have HX2 := hide (kc2.blk _ _ _ HX8.out)
        have HX3 := hide (kc3.blk _ _ _ (kc2.blk _ _ _ HX8.out))
        have y0 := HX2.out.cell 0
        have yl := HX2.out.lt
        have v0 := HX3.out.cell 0
        have v1 := HX3.out.cell 1
        have vl := HX3.out.lt
        simp at y0 v0 v1
        have HF3 := hide (And.intro hb3 (And.intro kw3 (And.intro ht3 (And.intro hc3 ho3))))
        have hcn : cntS (l.take k) (sectI d.kind) ≤ k := by unfold cntS; refine Nat.le_trans (List.length_filter_le _ _) ?_; rw [List.length_take]; omega
        have HSEC := hide (fun W => section_prog d.kind W)
        obtain ⟨sk, hsk⟩ : ∃ sk, sk = sectI d.kind := ⟨_, rfl⟩
        have HSK := hide hsk
        rw [← hsk] at p2 p3 hcn HSEC
        obtain ⟨cn, hcnn⟩ : ∃ cn, cn = cntS (l.take k) sk := ⟨_, rfl⟩
        have HCN := hide hcnn
        rw [← hcnn] at p2 p3 hcn
        have hwr : IntKind.i64.wrap ((cn : Int) + 1) = (cn : Int) + 1 := IntWalk.i64_in _ (by omega)
        have HB8 := hide (HB7.out.trans (hb8.mono (Nat.le_trans HBB.out HK7.out.size)))
        have HK8 := hide (HK7.out.trans (Kc.of_below hb8))
        clear hb8 hlo z2 z3 z4 z5 kc2 kc3 hb3 kw3 ht3 hc3 ho3 hsk hcnn
        by_cases hnm : d.name = ⟨#[]⟩
        · have gE : d.name.toList.isEmpty = true := by rw [empty_iff]; exact decide_eq_true hnm
          have HNM := hide hnm
          clear hnm
          cases on with
          | true =>
            cases sg with
            | true =>
              have HE := hide (collect_bad hlt hno.out (show firstE (l.take k) l[k] = 5 from first_once (by rw [← HD.out]; exact HVD.out.symm) (by rw [← HD.out]; have := HSG.out; simpa using this.symm) (by rw [← HD.out]; exact HON.out.symm)) (by decide))
              go_wp2_with fail
              go_ret2
              exact CollR.bad HE.out HB8.out HK8.out
            | false =>
              have HNO := hide (fun j (hj : j < l.length) (hjk : j < k + 1) => show firstE (l.take j) l[j] = 0 from by
               by_cases e : j = k
               · subst e; exact first_fine (by rw [← HD.out]; exact HVD.out.symm) (.inl (by rw [← HD.out]; exact HNM.out)) (.inl (by rw [← HD.out]; have := HSG.out; simpa using this.symm))
               · exact hno.out j hj (by omega))
              go_wp2_with (go_at_call 50; (with_reducible refine (HSEC.out _).mono ?_); rintro e w9 ⟨rfl, rfl⟩)
              go_roundw
              case rel =>
               obtain ⟨f1, f2, f3, f4, f5⟩ := HF3.out
               exact ⟨k + 1, by omega, by go_num, HNO, hide ⟨f1, f2, by rw [thgs_skip l hlt (by rw [← HD.out]; exact HNM.out)]; exact f3, f4, f5⟩⟩
              case measure => simp [intOf]; omega
          | false =>
            cases sg with
            | true =>
              have HNO := hide (fun j (hj : j < l.length) (hjk : j < k + 1) => show firstE (l.take j) l[j] = 0 from by
               by_cases e : j = k
               · subst e; exact first_fine (by rw [← HD.out]; exact HVD.out.symm) (.inl (by rw [← HD.out]; exact HNM.out)) (.inr (by rw [← HD.out]; exact HON.out.symm))
               · exact hno.out j hj (by omega))
              go_wp2_with (go_at_call 50; (with_reducible refine (HSEC.out _).mono ?_); rintro e w9 ⟨rfl, rfl⟩)
              go_roundw
              case rel =>
               obtain ⟨f1, f2, f3, f4, f5⟩ := HF3.out
               exact ⟨k + 1, by omega, by go_num, HNO, hide ⟨f1, f2, by rw [thgs_skip l hlt (by rw [← HD.out]; exact HNM.out)]; exact f3, f4, f5⟩⟩
              case measure => simp [intOf]; omega
            | false =>
              have HNO := hide (fun j (hj : j < l.length) (hjk : j < k + 1) => show firstE (l.take j) l[j] = 0 from by
               by_cases e : j = k
               · subst e; exact first_fine (by rw [← HD.out]; exact HVD.out.symm) (.inl (by rw [← HD.out]; exact HNM.out)) (.inr (by rw [← HD.out]; exact HON.out.symm))
               · exact hno.out j hj (by omega))
              go_wp2_with (go_at_call 50; (with_reducible refine (HSEC.out _).mono ?_); rintro e w9 ⟨rfl, rfl⟩)
              go_roundw
              case rel =>
               obtain ⟨f1, f2, f3, f4, f5⟩ := HF3.out
               exact ⟨k + 1, by omega, by go_num, HNO, hide ⟨f1, f2, by rw [thgs_skip l hlt (by rw [← HD.out]; exact HNM.out)]; exact f3, f4, f5⟩⟩
              case measure => simp [intOf]; omega
        · have gE : d.name.toList.isEmpty = false := by rw [empty_iff]; exact decide_eq_false hnm
          have HNM := hide hnm
          clear hnm
          cases used with
          | true =>
            have HE := hide (collect_bad hlt hno.out (show firstE (l.take k) l[k] = 5 from first_name (by rw [← HD.out]; exact HVD.out.symm) (by rw [← HD.out]; exact HNM.out) (by rw [← HD.out]; exact (by have := HUS.out; rw [used_any l HNM.out hk] at this; exact this.symm))) (by decide))
            go_wp2_with fail
            go_ret2
            exact CollR.bad HE.out HB8.out HK8.out
          | false =>
            cases on with
            | true =>
              cases sg with
              | true =>
                have HE := hide (collect_bad hlt hno.out (show firstE (l.take k) l[k] = 5 from first_once (by rw [← HD.out]; exact HVD.out.symm) (by rw [← HD.out]; have := HSG.out; simpa using this.symm) (by rw [← HD.out]; exact HON.out.symm)) (by decide))
                go_wp2_with fail
                go_ret2
                exact CollR.bad HE.out HB8.out HK8.out
              | false =>
                have HNO := hide (fun j (hj : j < l.length) (hjk : j < k + 1) => show firstE (l.take j) l[j] = 0 from by
                 by_cases e : j = k
                 · subst e; exact first_fine (by rw [← HD.out]; exact HVD.out.symm) (.inr (by rw [← HD.out]; exact (by have := HUS.out; rw [used_any l HNM.out hk] at this; exact this.symm))) (.inl (by rw [← HD.out]; have := HSG.out; simpa using this.symm))
                 · exact hno.out j hj (by omega))
                have q0 := ((HF3.out.2.1.blk _ _ _ HC0.out.2).cell 0).trans ((HC0.out.2.cell 0).symm.trans HC0.out.1)
                have ql := (HF3.out.2.1.blk _ _ _ HC0.out.2).lt
                obtain ⟨lc, c1, c2⟩ := HF3.out.2.2.2.1
                have hlc := c1.look1 (P := Tryz.prog) (t := 86) (KT := 3) (E := 3) Tryz.underlying86 Tryz.underlying3 (zero_i19 W3) sk
                have hcs := cnt_succ (s := sk) hlt
                rw [if_pos (by rw [← HD.out]; exact HSK.out.symm), ← HCN.out] at hcs
                rw [c2, hcs, ← HMC.out.1] at hlc
                have hlc2 : (Instr.lookup 86 (.map (some mc)) (.int .i64 sk) false).run Tryz.prog W3.drew = .ok (.int .i64 ((cn : Int) + 1)) W3.drew := by
                 have := (show AM keyInt W3.drew w.heap.size lc from c1).look1 (P := Tryz.prog) (t := 86) (KT := 3) (E := 3) Tryz.underlying86 Tryz.underlying3 (zero_i19 W3.drew) sk
                 rw [c2, hcs, ← HMC.out.1] at this
                 exact this
                have hg0 : getA (thL (thgs l k)) d.name = none := by
                 have := HUS.out
                 cases hq : getA (thL (thgs l k)) d.name with
                 | none => rfl
                 | some x => rw [hq] at this; cases this
                have hA3 : AM keyStr W3.drew mt (thL (thgs l k)) := HF3.out.2.2.1
                obtain ⟨es', n', hp, hkv⟩ := hA3.put (P := Tryz.prog) (t := 51) (KT := 9) (E := 89) Tryz.underlying51 Tryz.underlying9 d.name (thV (d.kind, (cn : Int) + 1))
                have hp2 : (Instr.mapUpdate 51 (.map (some mt)) (.string d.name) (.agg #[.int .i64 d.kind, .int .i64 ((cn : Int) + 1)])).run Tryz.prog W3.drew = .ok () (W3.drew.putObj mt (.map es' n')) := hp
                rw [putA_new hg0] at hkv
                obtain ⟨e3, n3, g3, gk⟩ := id hA3
                have kput : Kc W3.drew (W3.drew.putObj mt (.map es' n')) := Kc.put g3
                have HFIN := hide (show CS B w mt l (k + 1) (W3.drew.putObj mt (.map es' n')) from by
                 obtain ⟨f1, f2, f3, f4, f5⟩ := HF3.out
                 have hne : mt < w.heap.size := HML.out
                 have hth := thgs_some l hlt (by rw [← HD.out]; exact HNM.out)
                 refine ⟨(f1.drew).grown (grownBy_putObj' _ _ _) (Nat.le_trans HBB.out f2.size) (fun g e => by cases e; exact HMB.out), f2.drew.trans kput, ?_, ?_, ?_⟩
                 · refine ⟨es', n', World.putObj_heap_same hA3.lt, ?_⟩
                   rw [hth, ← HD.out, show sectI d.kind = sk from HSK.out.symm, hcs]
                   exact hkv
                 · obtain ⟨lc, c1, c2⟩ := f4
                   exact ⟨lc, (show AM keyInt W3.drew w.heap.size lc from c1).keep (World.putObj_heap_other (by omega)), c2⟩
                 · obtain ⟨lo, c1, c2⟩ := f5
                   exact ⟨lo, (show AM keyInt W3.drew (w.heap.size + 1) lo from c1).keep (World.putObj_heap_other (by omega)), c2⟩)
                have HKP := hide (show (W3.drew.putObj mt (.map es' n')).cell? ⟨br, 0, none⟩ = some (.map (some mt)) ∧ (W3.drew.putObj mt (.map es' n')).cell? ⟨bd, 0, none⟩ = some (.int .i64 d.kind) ∧ (W3.drew.putObj mt (.map es' n')).cell? ⟨bd, 1, none⟩ = some (.string d.name) from
                 ⟨((kput.blk _ _ _ (show Blk W3.drew br T cs from HF3.out.2.1.blk _ _ _ HC0.out.2)).cell 0).trans ((HC0.out.2.cell 0).symm.trans HC0.out.1), (kput.blk _ _ _ (show Blk W3.drew bd _ _ from HX3.out)).cell 0, (kput.blk _ _ _ (show Blk W3.drew bd _ _ from HX3.out)).cell 1⟩)
                clear hlc hcs hg0 hA3 hkv g3 gk kput c1 c2 lc hp
                go_wp2_with (go_at_call 50; (with_reducible refine (HSEC.out _).mono ?_); rintro e w9 ⟨rfl, rfl⟩)
                go_region_held3 (fun W => W.cell? ⟨br, 0, none⟩ = some (.map (some mt)) ∧ W.cell? ⟨bd, 0, none⟩ = some (.int .i64 d.kind) ∧ W.cell? ⟨bd, 1, none⟩ = some (.string d.name)) (first | exact HKP.out | go_keep) ((go_at_call 50; (with_reducible refine (HSEC.out _).mono ?_); rintro e w9 ⟨rfl, rfl⟩))
                all_goals
                 go_wp2_with fail
                 go_roundw
                 case rel => exact ⟨k + 1, by omega, by go_num, HNO, HFIN⟩
                 case measure => simp [intOf]; omega
            | false =>
              cases sg with
              | true =>
                have HNO := hide (fun j (hj : j < l.length) (hjk : j < k + 1) => show firstE (l.take j) l[j] = 0 from by
                 by_cases e : j = k
                 · subst e; exact first_fine (by rw [← HD.out]; exact HVD.out.symm) (.inr (by rw [← HD.out]; exact (by have := HUS.out; rw [used_any l HNM.out hk] at this; exact this.symm))) (.inr (by rw [← HD.out]; exact HON.out.symm))
                 · exact hno.out j hj (by omega))
                have q0 := ((HF3.out.2.1.blk _ _ _ HC0.out.2).cell 0).trans ((HC0.out.2.cell 0).symm.trans HC0.out.1)
                have ql := (HF3.out.2.1.blk _ _ _ HC0.out.2).lt
                obtain ⟨lc, c1, c2⟩ := HF3.out.2.2.2.1
                have hlc := c1.look1 (P := Tryz.prog) (t := 86) (KT := 3) (E := 3) Tryz.underlying86 Tryz.underlying3 (zero_i19 W3) sk
                have hcs := cnt_succ (s := sk) hlt
                rw [if_pos (by rw [← HD.out]; exact HSK.out.symm), ← HCN.out] at hcs
                rw [c2, hcs, ← HMC.out.1] at hlc
                have hlc2 : (Instr.lookup 86 (.map (some mc)) (.int .i64 sk) false).run Tryz.prog W3.drew = .ok (.int .i64 ((cn : Int) + 1)) W3.drew := by
                 have := (show AM keyInt W3.drew w.heap.size lc from c1).look1 (P := Tryz.prog) (t := 86) (KT := 3) (E := 3) Tryz.underlying86 Tryz.underlying3 (zero_i19 W3.drew) sk
                 rw [c2, hcs, ← HMC.out.1] at this
                 exact this
                have hg0 : getA (thL (thgs l k)) d.name = none := by
                 have := HUS.out
                 cases hq : getA (thL (thgs l k)) d.name with
                 | none => rfl
                 | some x => rw [hq] at this; cases this
                have hA3 : AM keyStr W3.drew mt (thL (thgs l k)) := HF3.out.2.2.1
                obtain ⟨es', n', hp, hkv⟩ := hA3.put (P := Tryz.prog) (t := 51) (KT := 9) (E := 89) Tryz.underlying51 Tryz.underlying9 d.name (thV (d.kind, (cn : Int) + 1))
                have hp2 : (Instr.mapUpdate 51 (.map (some mt)) (.string d.name) (.agg #[.int .i64 d.kind, .int .i64 ((cn : Int) + 1)])).run Tryz.prog W3.drew = .ok () (W3.drew.putObj mt (.map es' n')) := hp
                rw [putA_new hg0] at hkv
                obtain ⟨e3, n3, g3, gk⟩ := id hA3
                have kput : Kc W3.drew (W3.drew.putObj mt (.map es' n')) := Kc.put g3
                have HFIN := hide (show CS B w mt l (k + 1) (W3.drew.putObj mt (.map es' n')) from by
                 obtain ⟨f1, f2, f3, f4, f5⟩ := HF3.out
                 have hne : mt < w.heap.size := HML.out
                 have hth := thgs_some l hlt (by rw [← HD.out]; exact HNM.out)
                 refine ⟨(f1.drew).grown (grownBy_putObj' _ _ _) (Nat.le_trans HBB.out f2.size) (fun g e => by cases e; exact HMB.out), f2.drew.trans kput, ?_, ?_, ?_⟩
                 · refine ⟨es', n', World.putObj_heap_same hA3.lt, ?_⟩
                   rw [hth, ← HD.out, show sectI d.kind = sk from HSK.out.symm, hcs]
                   exact hkv
                 · obtain ⟨lc, c1, c2⟩ := f4
                   exact ⟨lc, (show AM keyInt W3.drew w.heap.size lc from c1).keep (World.putObj_heap_other (by omega)), c2⟩
                 · obtain ⟨lo, c1, c2⟩ := f5
                   exact ⟨lo, (show AM keyInt W3.drew (w.heap.size + 1) lo from c1).keep (World.putObj_heap_other (by omega)), c2⟩)
                have HKP := hide (show (W3.drew.putObj mt (.map es' n')).cell? ⟨br, 0, none⟩ = some (.map (some mt)) ∧ (W3.drew.putObj mt (.map es' n')).cell? ⟨bd, 0, none⟩ = some (.int .i64 d.kind) ∧ (W3.drew.putObj mt (.map es' n')).cell? ⟨bd, 1, none⟩ = some (.string d.name) from
                 ⟨((kput.blk _ _ _ (show Blk W3.drew br T cs from HF3.out.2.1.blk _ _ _ HC0.out.2)).cell 0).trans ((HC0.out.2.cell 0).symm.trans HC0.out.1), (kput.blk _ _ _ (show Blk W3.drew bd _ _ from HX3.out)).cell 0, (kput.blk _ _ _ (show Blk W3.drew bd _ _ from HX3.out)).cell 1⟩)
                clear hlc hcs hg0 hA3 hkv g3 gk kput c1 c2 lc hp
                go_wp2_with (go_at_call 50; (with_reducible refine (HSEC.out _).mono ?_); rintro e w9 ⟨rfl, rfl⟩)
                go_region_held3 (fun W => W.cell? ⟨br, 0, none⟩ = some (.map (some mt)) ∧ W.cell? ⟨bd, 0, none⟩ = some (.int .i64 d.kind) ∧ W.cell? ⟨bd, 1, none⟩ = some (.string d.name)) (first | exact HKP.out | go_keep) ((go_at_call 50; (with_reducible refine (HSEC.out _).mono ?_); rintro e w9 ⟨rfl, rfl⟩))
                all_goals
                 go_wp2_with fail
                 go_roundw
                 case rel => exact ⟨k + 1, by omega, by go_num, HNO, HFIN⟩
                 case measure => simp [intOf]; omega
              | false =>
                have HNO := hide (fun j (hj : j < l.length) (hjk : j < k + 1) => show firstE (l.take j) l[j] = 0 from by
                 by_cases e : j = k
                 · subst e; exact first_fine (by rw [← HD.out]; exact HVD.out.symm) (.inr (by rw [← HD.out]; exact (by have := HUS.out; rw [used_any l HNM.out hk] at this; exact this.symm))) (.inr (by rw [← HD.out]; exact HON.out.symm))
                 · exact hno.out j hj (by omega))
                have q0 := ((HF3.out.2.1.blk _ _ _ HC0.out.2).cell 0).trans ((HC0.out.2.cell 0).symm.trans HC0.out.1)
                have ql := (HF3.out.2.1.blk _ _ _ HC0.out.2).lt
                obtain ⟨lc, c1, c2⟩ := HF3.out.2.2.2.1
                have hlc := c1.look1 (P := Tryz.prog) (t := 86) (KT := 3) (E := 3) Tryz.underlying86 Tryz.underlying3 (zero_i19 W3) sk
                have hcs := cnt_succ (s := sk) hlt
                rw [if_pos (by rw [← HD.out]; exact HSK.out.symm), ← HCN.out] at hcs
                rw [c2, hcs, ← HMC.out.1] at hlc
                have hlc2 : (Instr.lookup 86 (.map (some mc)) (.int .i64 sk) false).run Tryz.prog W3.drew = .ok (.int .i64 ((cn : Int) + 1)) W3.drew := by
                 have := (show AM keyInt W3.drew w.heap.size lc from c1).look1 (P := Tryz.prog) (t := 86) (KT := 3) (E := 3) Tryz.underlying86 Tryz.underlying3 (zero_i19 W3.drew) sk
                 rw [c2, hcs, ← HMC.out.1] at this
                 exact this
                have hg0 : getA (thL (thgs l k)) d.name = none := by
                 have := HUS.out
                 cases hq : getA (thL (thgs l k)) d.name with
                 | none => rfl
                 | some x => rw [hq] at this; cases this
                have hA3 : AM keyStr W3.drew mt (thL (thgs l k)) := HF3.out.2.2.1
                obtain ⟨es', n', hp, hkv⟩ := hA3.put (P := Tryz.prog) (t := 51) (KT := 9) (E := 89) Tryz.underlying51 Tryz.underlying9 d.name (thV (d.kind, (cn : Int) + 1))
                have hp2 : (Instr.mapUpdate 51 (.map (some mt)) (.string d.name) (.agg #[.int .i64 d.kind, .int .i64 ((cn : Int) + 1)])).run Tryz.prog W3.drew = .ok () (W3.drew.putObj mt (.map es' n')) := hp
                rw [putA_new hg0] at hkv
                obtain ⟨e3, n3, g3, gk⟩ := id hA3
                have kput : Kc W3.drew (W3.drew.putObj mt (.map es' n')) := Kc.put g3
                have HFIN := hide (show CS B w mt l (k + 1) (W3.drew.putObj mt (.map es' n')) from by
                 obtain ⟨f1, f2, f3, f4, f5⟩ := HF3.out
                 have hne : mt < w.heap.size := HML.out
                 have hth := thgs_some l hlt (by rw [← HD.out]; exact HNM.out)
                 refine ⟨(f1.drew).grown (grownBy_putObj' _ _ _) (Nat.le_trans HBB.out f2.size) (fun g e => by cases e; exact HMB.out), f2.drew.trans kput, ?_, ?_, ?_⟩
                 · refine ⟨es', n', World.putObj_heap_same hA3.lt, ?_⟩
                   rw [hth, ← HD.out, show sectI d.kind = sk from HSK.out.symm, hcs]
                   exact hkv
                 · obtain ⟨lc, c1, c2⟩ := f4
                   exact ⟨lc, (show AM keyInt W3.drew w.heap.size lc from c1).keep (World.putObj_heap_other (by omega)), c2⟩
                 · obtain ⟨lo, c1, c2⟩ := f5
                   exact ⟨lo, (show AM keyInt W3.drew (w.heap.size + 1) lo from c1).keep (World.putObj_heap_other (by omega)), c2⟩)
                have HKP := hide (show (W3.drew.putObj mt (.map es' n')).cell? ⟨br, 0, none⟩ = some (.map (some mt)) ∧ (W3.drew.putObj mt (.map es' n')).cell? ⟨bd, 0, none⟩ = some (.int .i64 d.kind) ∧ (W3.drew.putObj mt (.map es' n')).cell? ⟨bd, 1, none⟩ = some (.string d.name) from
                 ⟨((kput.blk _ _ _ (show Blk W3.drew br T cs from HF3.out.2.1.blk _ _ _ HC0.out.2)).cell 0).trans ((HC0.out.2.cell 0).symm.trans HC0.out.1), (kput.blk _ _ _ (show Blk W3.drew bd _ _ from HX3.out)).cell 0, (kput.blk _ _ _ (show Blk W3.drew bd _ _ from HX3.out)).cell 1⟩)
                clear hlc hcs hg0 hA3 hkv g3 gk kput c1 c2 lc hp
                go_wp2_with (go_at_call 50; (with_reducible refine (HSEC.out _).mono ?_); rintro e w9 ⟨rfl, rfl⟩)
                go_region_held3 (fun W => W.cell? ⟨br, 0, none⟩ = some (.map (some mt)) ∧ W.cell? ⟨bd, 0, none⟩ = some (.int .i64 d.kind) ∧ W.cell? ⟨bd, 1, none⟩ = some (.string d.name)) (first | exact HKP.out | go_keep) ((go_at_call 50; (with_reducible refine (HSEC.out _).mono ?_); rintro e w9 ⟨rfl, rfl⟩))
                all_goals
                 go_wp2_with fail
                 go_roundw
                 case rel => exact ⟨k + 1, by omega, by go_num, HNO, HFIN⟩
                 case measure => simp [intOf]; omega
  · obtain rfl : k = l.length := by omega
    have HG := hide (collect_good fun j hj _ => hno.out j hj hj)
    go_wp2_with fail
    go_ret2
    unfold CollR
    rw [HG.out]
    exact ⟨⟨rfl, hS.out.t⟩, hS.out.b, hS.out.kc⟩
end Go.Proofs.YtcfogipaadhbeaaGreatDoor
