/- A part of the claim: see its last text. -/
import Derived.Test.YtmjcgcnpeoemdaaGreatDoorUK09
import Derived.Test.YtmjcgcnpeoemdaaGreatDoorUK10

set_option maxRecDepth 100000
set_option maxHeartbeats 16000000
namespace Go.Proofs.YtmjcgcnpeoemdaaGreatDoor
open Go Go.RowKit Go.Proofs
def initU (l : List Int) : List UnitM := l.map fun k => (k, 0)
theorem initU_len (l : List Int) : (initU l).length = l.length := by simp [initU]
theorem initU_snoc (l : List Int) {k : Nat} (hk : k < l.length) : initU (l.take k) ++ [(l[k], 0)] = initU (l.take (k + 1)) := by
 rw [List.take_succ_eq_append_getElem hk]
 simp only [initU, List.map_append, List.map_cons, List.map_nil]
theorem initial1_prog (k : Int) (w : World) : Calls Tryz.prog 48 #[.int .i64 k] w fun e w' => e = .returned (.agg #[.int .i64 k, .int .i64 0]) ∧ Below w.heap.size w w' := by
 have HB := hide ((Below.refl w.heap.size w).alloc (Nat.le_refl _) (.cells #[.int .i64 k, .int .i64 0] 78))
 go_enter Tryz.func48, Tryz.ntmps48
 go_wp2_with fail
 refine bodyPost_ret (v := .agg #[.int .i64 k, .int .i64 0]) (by simp [results, Tryz.results48, go_sem, *]) rfl ?_
 exact ⟨rfl, HB.out⟩
def OwnR (w : World) (l : List UnitM) (e : Ending) (w' : World) : Prop := ∃ v, e = .returned v ∧ OwnU w.heap.size w' v l ∧ Below w.heap.size w w'
theorem mapped_ints (A : Option Addr) (c : Nat) (l : List Int) (w : World) (h : Ints w w.heap.size A l) (hl : l.length ≤ 1000) :
    Calls Tryz.prog 47 #[.slice A l.length c, .func (.func 48) #[] #[]] w (OwnR w (initU l)) := by
 have H0 := hide (OwnU.nil_ w.heap.size w)
 go_enter Tryz.func47, Tryz.ntmps47
 go_wp2_with fail
 go_loopw [5, 10] (fun v i wr => ∃ k : Nat, k ≤ l.length ∧ i = .int .i64 k ∧ Hid (OwnU w.heap.size wr v (initU (l.take k))) ∧ Below w.heap.size w wr) (fun _ i _ => l.length - (intOf i).toNat)
 case atStart => exact ⟨0, Nat.zero_le _, rfl, H0, Below.refl _ _⟩
 case round =>
  clear H0
  obtain ⟨k, hk, rfl, hM, hbr⟩ := hrel
  by_cases hlt : k < l.length
  · obtain ⟨b, off, hA, hb, x0⟩ := int_at (h.grow hbr) hlt
    subst hA
    obtain ⟨q, hq⟩ : ∃ q, q = initU (l.take k) := ⟨_, rfl⟩
    rw [← hq] at hM
    have hkl : q.length ≤ 1000 := by rw [hq, initU_len]; simp; omega
    have HT := hide (initU_snoc l hlt)
    rw [← hq] at HT
    have HKL := hide hkl
    have HC := hide (initial1_prog l[k] wr)
    clear hkl hq
    go_wp2_with (first
     | ((with_reducible refine Calls.mono HC.out ?_); rintro e w1 ⟨rfl, hb1⟩
        have HO1 := hide ((hM.out.keep (KT.below hb1)).keep (KT.alloc w1 (.cells #[.int .i64 l[k], .int .i64 0] 78)))
        have HR1 := hide (show Reads (w1.alloc (.cells #[.int .i64 l[k], .int .i64 0] 78)) (w1.heap.size + 1) 2 (some ⟨w1.heap.size, 0, none⟩) 1 (unitCells [(l[k], 0)]) from ⟨rfl, fun _ => ⟨_, rfl, by simp, fun j u hu => by rw [add_none, Nat.zero_add, cell?_new]; simpa [unitCells] using hu⟩⟩)
        have HB1 := hide hb1
        have HZ1 := hide (show w.heap.size ≤ (w1.alloc (.cells #[.int .i64 l[k], .int .i64 0] 78)).heap.size by have := hbr.size; have := hb1.size; simp; omega)
        have HL1 := hide (show q.length + [((l[k] : Int), (0 : Int))].length ≤ 1000000 by have := HKL.out; simp; omega)
        clear hb1)
     | (at_builtin; refine append_units rfl _ _ rfl w.heap.size _ q rfl HO1.out (w1.heap.size + 1) (some ⟨w1.heap.size, 0, none⟩) 1 _ [(l[k], 0)] rfl rfl HR1.out HL1.out HZ1.out ?_; intro v3 w3 ho3 hg3 _; have ho3 := hide ho3; have hg3 := hide hg3))
    have hb3 : Below w.heap.size w w3 := ((hbr.trans (HB1.out.mono hbr.size)).alloc (by have := hbr.size; have := HB1.out.size; omega) (.cells #[.int .i64 l[k], .int .i64 0] 78)).grown hg3.out (by have := hbr.size; have := HB1.out.size; simp; omega) (fun g hg => (HO1.out.lt g hg).1)
    go_roundw
    case rel => exact ⟨k + 1, by omega, by go_num, hide (by rw [← HT.out]; exact ho3.out), hb3⟩
    case measure => simp [intOf]; omega
  · obtain rfl : k = l.length := by omega
    have hM2 := hM.out
    rw [List.take_length] at hM2
    have HM := hide hM2
    clear hM hM2
    go_wp2_with fail
    go_ret
    exact ⟨_, rfl, HM.out, hbr⟩
theorem initP_len (m : Mod) : (initP m).length = m.iT.length := by simp [initP]
theorem initP_at (m : Mod) (k : Nat) (hk : k < m.iT.length) : (initP m).take k ++ [initU m.iT[k].on] = (initP m).take (k + 1) := by
 rw [List.take_succ_eq_append_getElem (by rw [initP_len]; exact hk)]
 congr 2
 simp [initP, initU]
structure InitS (m : Mod) (h : MH) (w wr : World) (k : Nat) (A : Option Addr) (c : Nat) : Prop where
 b : Below w.heap.size w wr
 bm : Blk wr w.heap.size 29 #[.slice h.s m.sT.length h.sc, .slice h.f m.fT.length h.fc, .slice h.r m.rT.length h.rc, .slice h.m m.mT.length h.mc, .slice h.l m.lT.length h.lc, .slice h.i m.iT.length h.ic, .int .i64 m.dT, .int .i64 m.oT, .int .i64 m.vT, .int .i64 m.aT, .slice h.u m.uT.length h.uc]
 br : Blk wr (w.heap.size + 1) 60 #[.slice none 0 0]
 bx : Blk wr (w.heap.size + 1 + 1) 60 #[.slice A k c]
 op : OP (w.heap.size + 3) wr (.slice A k c) ((initP m).take k)
theorem InitS.next {m : Mod} {h : MH} {w wr W w1 w3 : World} {k c c4 : Nat} {A A4 : Option Addr} {q : PlaceM} {o : Obj} (s : InitS m h w wr k A c) (hbW : Below wr.heap.size wr W) (hb1 : Below W.drew.heap.size W.drew w1)
    (hg : (w1.alloc o).grownBy w3 (Value.slice A k c).ownBlock) (ho : OP (w.heap.size + 3) (w1.alloc o) (.slice A k c) q) (h3 : OP (w.heap.size + 3) w3 (.slice A4 (k + 1) c4) ((initP m).take (k + 1))) :
    InitS m h w (w3.setCell ⟨w.heap.size + 1 + 1, 0, none⟩ (.slice A4 (k + 1) c4)) (k + 1) A4 c4 := by
 have hbW1 : Below wr.heap.size wr (w1.alloc o) := (hbW.drew.trans (hb1.mono hbW.size)).alloc (by have := hbW.size; have := hb1.size; simp at this; omega) o
 have hne : ∀ g, g < w.heap.size + 3 → some g ≠ (Value.slice A k c).ownBlock := fun g hgl e => by have := (ho.lt _ e.symm).1; omega
 have b3 : ∀ {g : Nat} {T : TypeId} {cs : Array Value}, Blk wr g T cs → g < w.heap.size + 3 → Blk w3 g T cs := fun hb hgl => (hb.below hbW1 hb.lt).grown hg (hne _ hgl)
 have hx3 := b3 s.bx (by omega)
 refine ⟨?_, (b3 s.bm (by omega)).far (by simp <;> omega) _, (b3 s.br (by omega)).far (by simp <;> omega) _, ?_, ?_⟩
 · refine (Below.grown (s.b.trans (hbW1.mono s.b.size)) hg (Nat.le_trans s.b.size hbW1.size) fun g e => ?_).setCell (by simp <;> omega) _
   have := (ho.lt _ e).1
   omega
 · simpa using hx3.set_ 0 (.slice A4 (k + 1) c4)
 · exact h3.keep (KT.set_ hx3 (by decide) 0 _) (KT.set_ hx3 (by decide) 0 _)
theorem initial_prog (h : MH) (m : Mod) (w : World) (d : MD w w.heap.size h m) (hi : m.iT.length ≤ 1000) (ho : ∀ x ∈ m.iT, x.on.length ≤ 1000) :
    Calls Tryz.prog 18 #[.agg #[.slice h.s m.sT.length h.sc, .slice h.f m.fT.length h.fc, .slice h.r m.rT.length h.rc, .slice h.m m.mT.length h.mc, .slice h.l m.lT.length h.lc, .slice h.i m.iT.length h.ic, .int .i64 m.dT, .int .i64 m.oT, .int .i64 m.vT, .int .i64 m.aT, .slice h.u m.uT.length h.uc]] w (PlaceR w (initP m)) := by
 have H0 : InitS m h w (((w.alloc (.cells #[.slice h.s m.sT.length h.sc, .slice h.f m.fT.length h.fc, .slice h.r m.rT.length h.rc, .slice h.m m.mT.length h.mc, .slice h.l m.lT.length h.lc, .slice h.i m.iT.length h.ic, .int .i64 m.dT, .int .i64 m.oT, .int .i64 m.vT, .int .i64 m.aT, .slice h.u m.uT.length h.uc] 29)).alloc (.cells #[.slice none 0 0] 60)).alloc (.cells #[.slice none 0 0] 60)) 0 none 0 := by
  refine ⟨(((Below.refl w.heap.size w).alloc (Nat.le_refl _) _).alloc (by simp) _).alloc (by simp <;> omega) _, ((Blk.new w _ _).alloc _).alloc _, ?_, ?_, ?_⟩
  · have := (Blk.new (w.alloc (.cells #[.slice h.s m.sT.length h.sc, .slice h.f m.fT.length h.fc, .slice h.r m.rT.length h.rc, .slice h.m m.mT.length h.mc, .slice h.l m.lT.length h.lc, .slice h.i m.iT.length h.ic, .int .i64 m.dT, .int .i64 m.oT, .int .i64 m.vT, .int .i64 m.aT, .slice h.u m.uT.length h.uc] 29)) 60 #[.slice none 0 0]).alloc (.cells #[.slice none 0 0] 60)
    simpa using this
  · have := Blk.new ((w.alloc (.cells #[.slice h.s m.sT.length h.sc, .slice h.f m.fT.length h.fc, .slice h.r m.rT.length h.rc, .slice h.m m.mT.length h.mc, .slice h.l m.lT.length h.lc, .slice h.i m.iT.length h.ic, .int .i64 m.dT, .int .i64 m.oT, .int .i64 m.vT, .int .i64 m.aT, .slice h.u m.uT.length h.uc] 29)).alloc (.cells #[.slice none 0 0] 60)) 60 #[.slice none 0 0]
    simpa using this
  · exact OP.nil_ _ _
 have HO := hide ho
 have H0 := hide H0
 clear ho
 go_enter Tryz.func18, Tryz.ntmps18
 go_wp2_with fail
 go_loopw [9] (fun i wr => ∃ (k : Nat) (A : Option Addr) (c : Nat), k ≤ m.iT.length ∧ i = .int .i64 k ∧ Hid (InitS m h w wr k A c)) (fun i _ => m.iT.length - (intOf i).toNat)
 case atStart => exact ⟨0, none, 0, Nat.zero_le _, rfl, H0⟩
 case round =>
  clear H0
  obtain ⟨k, A, c, hk, rfl, hS⟩ := hrel
  by_cases hlt : k < m.iT.length
  · have hbr := hS.out.b
    obtain ⟨b, off, A2, c2, hA, hb, x0, x1, x2, x3, x4, x5, x6, hz, hlc, hcm, hI⟩ := (d.grow hbr).dI.item hlt
    rw [hA]
    have hon : m.iT[k].on.length ≤ 1000 := HO.out _ (List.getElem_mem hlt)
    obtain ⟨W, hW⟩ : ∃ W, W = wr.alloc (.cells #[.string m.iT[k].name, .int .i64 m.iT[k].kind, .int .i64 m.iT[k].count, .int .i64 m.iT[k].load, .int .i64 m.iT[k].size, .int .i64 m.iT[k].share, .slice A2 m.iT[k].on.length c2] 62) := ⟨_, rfl⟩
    have hbW : Below wr.heap.size wr W := by rw [hW]; exact (Below.refl _ _).alloc (Nat.le_refl _) _
    have HM := hide (mapped_ints A2 c2 m.iT[k].on W.drew (hI.grow hbW.drew) hon)
    have hbxW : Blk W (w.heap.size + 1 + 1) 60 #[.slice A k c] := hS.out.bx.below hbW hS.out.bx.lt
    have hopW : OP (w.heap.size + 3) W (.slice A k c) ((initP m).take k) := hS.out.op.below hbW
    have hxb : Blk W wr.heap.size 62 #[.string m.iT[k].name, .int .i64 m.iT[k].kind, .int .i64 m.iT[k].count, .int .i64 m.iT[k].load, .int .i64 m.iT[k].size, .int .i64 m.iT[k].share, .slice A2 m.iT[k].on.length c2] := by rw [hW]; exact Blk.new _ _ _
    have xb6 := hxb.cell 6
    have xbl := hxb.lt
    simp at xb6
    have HBX := hide hbxW
    have HBW := hide hbW
    obtain ⟨q, hq⟩ : ∃ q, q = (initP m).take k := ⟨_, rfl⟩
    have HL := hide (show q.length = k by rw [hq]; simp [initP_len]; omega)
    rw [← hq] at hopW
    have HOP := hide hopW
    have bx0 := hS.out.bx.cell 0
    have bxl := hS.out.bx.lt
    have bxW0 := hbxW.cell 0
    have bxWl := hbxW.lt
    simp at bx0 bxW0
    have HT := hide (initP_at m k hlt)
    rw [← hq] at HT
    have HWW := hide hW
    clear hxb hI hbW hbxW hopW hbr hon hW hq
    go_wp2_with fail
    rw [← HWW.out]
    go_region_law
     ((first
       | (go_simp; go_at_call 47; refine HM.out.mono ?_; rintro e w1 ⟨v1, rfl, hO1, hb1⟩
          obtain ⟨A3, c3, rfl, _⟩ := hO1.ut.form
          have hbx1 := HBX.out.drew.below hb1 HBX.out.lt
          have b10 := hbx1.cell 0
          have b1l := hbx1.lt
          simp at b10
          have HBX1 := hide hbx1
          have HU1 := hide (hO1.ut.keep (KT.alloc w1 (.cells #[.slice A3 (initU m.iT[k].on).length c3] 67)))
          have HOP1 := hide (((HOP.out.keep (KT.drew W) (KT.drew W)).below hb1).keep (KT.alloc w1 (.cells #[.slice A3 (initU m.iT[k].on).length c3] 67)) (KT.alloc w1 (.cells #[.slice A3 (initU m.iT[k].on).length c3] 67)))
          have HRD := hide (Reads.newRow w1 #[.slice A3 (initU m.iT[k].on).length c3] 67 1 1 rfl)
          have HB1 := hide hb1
          clear hbx1 hb1 hO1
          dsimp only)
       | (refine step_append_row rfl _ _ rfl (w.heap.size + 3) (.slice A k c) q rfl HOP1.out _ _ 1 (.slice A3 (initU m.iT[k].on).length c3) (initU m.iT[k].on) rfl HRD.out HU1.out (by rw [HL.out]; omega) (by simp; omega) ?_; intro v3 w3 ho3 hg3 hv3
          obtain ⟨A4, c4, e4, _⟩ := ho3.pt.form
          rw [List.length_append, HL.out] at e4
          subst e4
          have hbx3 := (HBX1.out.alloc (.cells #[.slice A3 (initU m.iT[k].on).length c3] 67)).grown hg3 (fun e => by have := (HOP1.out.lt _ e.symm).1; omega)
          have b30 := hbx3.cell 0
          have b3f := hbx3.frozen 0
          have b3l := hbx3.lt
          simp at b30
          have HG3 := hide hg3
          have HO3 := hide ho3
          have HBX3 := hide hbx3
          clear hbx3 hg3 ho3 hv3
          dsimp only)))
    all_goals
     have hN := hide (hS.out.next HBW.out HB1.out HG3.out HOP1.out (by rw [← HT.out]; exact HO3.out))
     go_wp2_with fail
     go_roundw
     case rel => exact ⟨k + 1, A4, c4, by omega, by go_num, hN⟩
     case measure => simp [intOf]; omega
  · obtain rfl : k = m.iT.length := by omega
    have x0 := hS.out.bx.cell 0
    have xl := hS.out.bx.lt
    have r0 := hS.out.br.cell 0
    have rf := hS.out.br.frozen 0
    have rl := hS.out.br.lt
    simp at x0 r0
    go_wp2_with fail
    refine bodyPost_ret (v := .agg #[.slice A m.iT.length c]) (by simp [results, Tryz.results18, go_sem, *]) rfl ?_
    have hop := hS.out.op.pt
    rw [List.take_of_length_le (by rw [initP_len]; exact Nat.le_refl _)] at hop
    refine ⟨A, c, by rw [initP_len], by rw [initP_len]; exact hop.keep (KT.set_ hS.out.br (by decide) 0 _) (KT.set_ hS.out.br (by decide) 0 _), hS.out.b.setCell (by simp) _⟩
def placeAt (m : Mod) (l : List EvM) (k : Nat) : PlaceM := (l.take k).foldl (stepP m) (initP m)
theorem placeAt_zero (m : Mod) (l : List EvM) : placeAt m l 0 = initP m := rfl
theorem placeAt_succ (m : Mod) (l : List EvM) {k : Nat} (hk : k < l.length) : placeAt m l (k + 1) = stepP m (placeAt m l k) l[k] := by
 unfold placeAt
 rw [List.take_succ_eq_append_getElem hk, List.foldl_append]; rfl
theorem Room.init {m : Mod} (hi : m.iT.length ≤ 1000) (ho : ∀ x ∈ m.iT, x.on.length ≤ 100) : Room 100 (initP m) := by
 refine ⟨by simpa [initP] using hi, fun l hl => ?_⟩
 simp only [initP, List.mem_map] at hl
 obtain ⟨x, hx, rfl⟩ := hl
 simpa using ho x hx
theorem Room.step {n : Nat} {p : PlaceM} (h : Room n p) (m : Mod) (x : EvM) (ho : x.old.length ≤ 10) : Room (n + 11) (stepP m p x) := by
 unfold stepP
 split
 · exact (h.after m x).mono (by omega)
 · exact h.mono (by omega)
theorem Room.placeAt {m : Mod} {l : List EvM} (hi : m.iT.length ≤ 1000) (ho : ∀ x ∈ m.iT, x.on.length ≤ 100) (hl : ∀ x ∈ l, x.old.length ≤ 10) (k : Nat) : Room (100 + 11 * k) (placeAt m l k) := by
 induction k with
 | zero => exact Room.init hi ho
 | succ k ih =>
   by_cases hk : k < l.length
   · rw [placeAt_succ m l hk]
     exact (ih.step m _ (hl _ (List.getElem_mem hk))).mono (by omega)
   · have : Go.Proofs.YtmjcgcnpeoemdaaGreatDoor.placeAt m l (k + 1) = Go.Proofs.YtmjcgcnpeoemdaaGreatDoor.placeAt m l k := by
       unfold Go.Proofs.YtmjcgcnpeoemdaaGreatDoor.placeAt
       rw [List.take_of_length_le (by omega), List.take_of_length_le (by omega)]
     rw [this]
     exact ih.mono (by omega)
theorem room60 {m : Mod} {l : List EvM} (hi : m.iT.length ≤ 1000) (ho : ∀ x ∈ m.iT, x.on.length ≤ 100) (hl : l.length ≤ 60) (hold : ∀ x ∈ l, x.old.length ≤ 10) (k : Nat) (hk : k ≤ l.length) : Room 800 (placeAt m l k) := (Room.placeAt hi ho hold k).mono (by omega)
structure VisR (B0 bp : Nat) (wr w' : World) : Prop where
 b : Below B0 wr w'
 km : KT 29 wr w'
 ku : KT 78 wr w'
 kr : KT 67 wr w'
 kp : ∀ cs, Blk wr bp 60 cs → Blk w' bp 60 cs
theorem VisR.refl (B0 bp : Nat) (w : World) : VisR B0 bp w w := ⟨Below.refl _ _, KT.refl _ _, KT.refl _ _, KT.refl _ _, fun _ h => h⟩
structure Besides (g : Nat) (w w' : World) : Prop where
 os : w'.os = w.os
 tape : w'.tape = w.tape
 output : w'.output = w.output
 size : w.heap.size ≤ w'.heap.size
 block : ∀ k, k < w.heap.size → k ≠ g → w'.heap[k]? = w.heap[k]?
theorem Besides.trans {g : Nat} {a b c : World} (h : Besides g a b) (k : Besides g b c) : Besides g a c :=
 ⟨k.os.trans h.os, k.tape.trans h.tape, k.output.trans h.output, Nat.le_trans h.size k.size, fun i hi hn => (k.block i (Nat.lt_of_lt_of_le hi h.size) hn).trans (h.block i hi hn)⟩
theorem Besides.below {g : Nat} {w w' : World} (h : Below w.heap.size w w') : Besides g w w' := ⟨h.os, h.tape, h.output, h.size, fun k hk _ => h.block k hk⟩
theorem Besides.set_ {g : Nat} (w : World) (i : Nat) (u : Value) : Besides g w (w.setCell ⟨g, i, none⟩ u) :=
 ⟨rfl, rfl, rfl, by simp, fun k _ hn => Below.heap_setCell w ⟨g, i, none⟩ u k (fun e => hn e)⟩
theorem Besides.toBelow {g B : Nat} {w w' : World} (h : Besides g w w') (hB : B ≤ g) (hw : B ≤ w.heap.size) : Below B w w' := ⟨h.os, h.tape, h.output, h.size, fun k hk => h.block k (by omega) (by omega)⟩
theorem Besides.blk {g b : Nat} {w w' : World} {t : TypeId} {cs : Array Value} (h : Besides g w w') (hB : Blk w b t cs) (hn : b ≠ g) : Blk w' b t cs := (h.block b hB.lt hn).trans hB
theorem Besides.kt {g : Nat} {w w' : World} {T T' : TypeId} {cs : Array Value} (h : Besides g w w') (hb : Blk w g T' cs) (hne : T ≠ T') : KT T w w' := by
 refine ⟨h.size, fun b cur hB => h.blk hB fun e => ?_⟩
 subst e
 rw [Blk] at hb hB
 rw [hb] at hB
 simp at hB
 exact hne hB.2.symm
structure WalkS (B0 bm bp : Nat) (w : World) (h : MH) (m : Mod) (wr : World) (q : PlaceM) : Prop where
 b : Below B0 w wr
 bm : Blk wr bm 29 #[.slice h.s m.sT.length h.sc, .slice h.f m.fT.length h.fc, .slice h.r m.rT.length h.rc, .slice h.m m.mT.length h.mc, .slice h.l m.lT.length h.lc, .slice h.i m.iT.length h.ic, .int .i64 m.dT, .int .i64 m.oT, .int .i64 m.vT, .int .i64 m.aT, .slice h.u m.uT.length h.uc]
 bp : ∃ A c, Blk wr bp 60 #[.slice A q.length c] ∧ PT wr (.slice A q.length c) q
theorem WalkS.grow {B0 bm bp : Nat} {w wr w1 : World} {h : MH} {m : Mod} {q : PlaceM} (s : WalkS B0 bm bp w h m wr q) (hB : B0 ≤ wr.heap.size) (hb : Below wr.heap.size wr w1) : WalkS B0 bm bp w h m w1 q := by
 obtain ⟨A0, c0, h0, hP⟩ := s.bp
 exact ⟨s.b.trans (hb.mono hB), s.bm.below hb s.bm.lt, A0, c0, h0.below hb h0.lt, hP.below hb⟩
theorem WalkS.next {B0 bm bp : Nat} {w wr w1 : World} {h : MH} {m : Mod} {q q' : PlaceM} {A : Option Addr} {c : Nat} (s : WalkS B0 bm bp w h m wr q) (hB : B0 ≤ wr.heap.size) (hBp : B0 ≤ bp) (hb : Below wr.heap.size wr w1) (hp : PT w1 (.slice A q'.length c) q') :
    WalkS B0 bm bp w h m (w1.setCell ⟨bp, 0, none⟩ (.slice A q'.length c)) q' := by
 obtain ⟨A0, c0, h0, _⟩ := s.bp
 have h1 := h0.below hb h0.lt
 refine ⟨(s.b.trans (hb.mono hB)).setCell (by simpa using hBp) _, (s.bm.below hb s.bm.lt).far (fun e => ?_) _, A, c, by simpa using h1.set_ 0 (.slice A q'.length c), hp.keep (KT.set_ h1 (by decide) 0 _) (KT.set_ h1 (by decide) 0 _)⟩
 have h2 := s.bm.below hb s.bm.lt
 simp only at e
 subst e
 rw [Blk] at h1 h2
 rw [h1] at h2
 simp at h2
theorem WalkS.visited {B0 bm bp : Nat} {w wr w1 : World} {h : MH} {m : Mod} {q : PlaceM} (s : WalkS B0 bm bp w h m wr q) (v : VisR B0 bp wr w1) : WalkS B0 bm bp w h m w1 q := by
 obtain ⟨A0, c0, h0, hP⟩ := s.bp
 exact ⟨s.b.trans v.b, v.km.2 _ _ s.bm, A0, c0, v.kp _ h0, hP.keep v.ku v.kr⟩
def TupR (Q : World → Prop) (e : Ending) (w' : World) : Prop := e = .returned (.tuple #[]) ∧ Q w'
def LoopW (B0 bm bp : Nat) (w : World) (h : MH) (m : Mod) (l : List EvM) (Inv : Nat → Nat → World → Prop) (i : Value) (wr : World) : Prop :=
 ∃ k : Nat, k ≤ l.length ∧ i = .int .i64 k ∧ WalkS B0 bm bp w h m wr (placeAt m l k) ∧ Inv bp k wr
theorem walk_prog (g : Nat) (lb : Array Value) (eg : ∀ args w, (callFunc g args).run Tryz.prog w = .ok (.enter g args) w) (Inv : Nat → Nat → World → Prop) (h : MH) (m : Mod) (l : List EvM) (A : Option Addr) (c B0 : Nat) (w : World)
    (hB0 : B0 ≤ w.heap.size) (d : MD w B0 h m) (hE : Rows encEv 22 w B0 A l) (hi : m.iT.length ≤ 100) (hm : m.mT.length ≤ 100) (hon : ∀ x ∈ m.iT, x.on.length ≤ 100) (hl : l.length ≤ 1000) (hroom : ∀ k, k ≤ l.length → Room 800 (placeAt m l k)) (hold : ∀ x ∈ l, x.old.length ≤ 10)
    (hstart : ∀ bp W, Below w.heap.size w W → w.heap.size ≤ bp → bp < W.heap.size → Inv bp 0 W)
    (hmove : ∀ bp i W W', w.heap.size ≤ bp → (∃ cs, Blk W bp 60 cs) → Besides bp W W' → Inv bp i W → Inv bp i W')
    (hvisit : ∀ bp i (_ : i < l.length) W A' c', Inv bp i W → w.heap.size ≤ bp → bp < W.heap.size → Below B0 w W → PT W (.slice A' (placeAt m l (i + 1)).length c') (placeAt m l (i + 1)) →
      Calls Tryz.prog g (#[.int .i64 i, .agg #[.slice A' (placeAt m l (i + 1)).length c'], .bool (countsB m l[i])] ++ lb) W (TupR fun W' => Inv bp (i + 1) W' ∧ VisR B0 bp W W')) :
    Calls Tryz.prog 19 #[.agg #[.slice h.s m.sT.length h.sc, .slice h.f m.fT.length h.fc, .slice h.r m.rT.length h.rc, .slice h.m m.mT.length h.mc, .slice h.l m.lT.length h.lc, .slice h.i m.iT.length h.ic, .int .i64 m.dT, .int .i64 m.oT, .int .i64 m.vT, .int .i64 m.aT, .slice h.u m.uT.length h.uc], .slice A l.length c, .func (.func g) #[] lb] w (TupR fun w' => ∃ bp, w.heap.size ≤ bp ∧ Inv bp l.length w') := by
 have HV := hide hvisit
 have HM := hide hmove
 have HS := hide hstart
 have hb0 := (Below.refl w.heap.size w).alloc (Nat.le_refl _) (.cells #[.slice h.s m.sT.length h.sc, .slice h.f m.fT.length h.fc, .slice h.r m.rT.length h.rc, .slice h.m m.mT.length h.mc, .slice h.l m.lT.length h.lc, .slice h.i m.iT.length h.ic, .int .i64 m.dT, .int .i64 m.oT, .int .i64 m.vT, .int .i64 m.aT, .slice h.u m.uT.length h.uc] 29)
 have HI := hide (initial_prog h m (w.alloc (.cells #[.slice h.s m.sT.length h.sc, .slice h.f m.fT.length h.fc, .slice h.r m.rT.length h.rc, .slice h.m m.mT.length h.mc, .slice h.l m.lT.length h.lc, .slice h.i m.iT.length h.ic, .int .i64 m.dT, .int .i64 m.oT, .int .i64 m.vT, .int .i64 m.aT, .slice h.u m.uT.length h.uc] 29)) ((d.more hB0).grow hb0) (by omega) (fun x hx => by have := hon x hx; omega))
 have HB := hide hb0
 have HBM := hide (Blk.new w 29 #[.slice h.s m.sT.length h.sc, .slice h.f m.fT.length h.fc, .slice h.r m.rT.length h.rc, .slice h.m m.mT.length h.mc, .slice h.l m.lT.length h.lc, .slice h.i m.iT.length h.ic, .int .i64 m.dT, .int .i64 m.oT, .int .i64 m.vT, .int .i64 m.aT, .slice h.u m.uT.length h.uc])
 have HD := hide (fun W (hb : Below B0 w W) => (d.below hb).more (Nat.le_trans hB0 hb.size))
 have HRw := hide hE
 have HR := hide hroom
 have HO := hide hold
 have hll := hl
 have hmm := hm
 clear hvisit hmove hstart hb0 d hE hon hold hl hm hroom
 go_enter Tryz.func19, Tryz.ntmps19
 go_wp2_with (go_at_call 18; refine HI.out.mono ?_; rintro e w1 ⟨A1, c1, rfl, hp1, hb1⟩; have HP1 := hide hp1; have HB1 := hide hb1; clear hp1 hb1)
 have hz1 : w.heap.size + 1 ≤ w1.heap.size := by have := HB1.out.size; simp at this; omega
 go_loopw [14] (fun i wr => LoopW B0 w.heap.size w1.heap.size w h m l Inv i wr) (fun i _ => l.length - (intOf i).toNat)
 case atStart =>
  have hbx : Below w.heap.size w (w1.alloc (.cells #[.slice A1 (initP m).length c1] 60)) := (HB.out.trans (HB1.out.mono HB.out.size)).alloc (by omega) _
  have hb1 : Below w1.heap.size w1 (w1.alloc (.cells #[.slice A1 (initP m).length c1] 60)) := (Below.refl _ _).alloc (Nat.le_refl _) _
  refine ⟨0, Nat.zero_le _, rfl, ⟨hbx.mono hB0, (HBM.out.below HB1.out (by simp)).alloc _, A1, c1, ?_, ?_⟩, HS.out _ _ hbx (by omega) (by simp)⟩
  · rw [placeAt_zero]; exact Blk.new _ _ _
  · rw [placeAt_zero]; exact HP1.out.below hb1
 case round =>
  obtain ⟨k, hk, rfl, hS, hI⟩ := hrel
  have hS := hide hS
  have hI := hide hI
  have hzr := hS.out.b.size
  obtain ⟨A2, c2, hB2, hP2⟩ := hS.out.bp
  have hHP2 := hide hP2
  have HBX := hide hB2
  have x0 := hB2.cell 0
  have xl := hB2.lt
  obtain ⟨a0, a1, a2, a3, a4, a5, a6, a7, a8, a9, a10⟩ := MB.cells hS.out.bm
  have al := hS.out.bm.lt
  simp at x0
  clear hB2 hP2
  by_cases hlt : k < l.length
  · obtain ⟨x, hx⟩ : ∃ x, l[k] = x := ⟨_, rfl⟩
    obtain ⟨b, off, j, hA, hb, ho1, ho2, hoI, hc⟩ := (HRw.out.below hS.out.b).evRange hlt hx
    have hxo : x.old.length ≤ 10 := by rw [← hx]; exact HO.out _ (List.getElem_mem hlt)
    have HCR := hide hc
    subst hA
    have HJ := hide (And.intro hoI (And.intro ho1 ho2))
    have hx2 := hx
    clear hc hoI ho1 ho2 hx hb
    have HX := hide hx2
    have hbe := (Below.refl wr.heap.size wr).alloc (Nat.le_refl _) (.cells #[.int .i64 x.kind, .int .i64 x.mach, .int .i64 j.v2, .int .i64 j.v3, .int .i64 x.group, .int .i64 j.v5, .string j.v6, .int .i64 j.v7, .int .i64 j.v8, .int .i64 j.v9, .bool j.v10, .int .i64 j.v11, .slice j.A x.old.length j.c, .slice j.A13 j.n13 j.c13, .slice j.A14 j.n14 j.c14, .int .i64 x.hitem, .int .i64 j.v16, .int .i64 x.hstate, .int .i64 j.v18, .int .i64 j.v19, .bool x.gone, .int .i64 x.outcome] 50)
    have hBr : B0 ≤ wr.heap.size := by omega
    have hSe := hS.out.grow hBr hbe
    have HSe := hide hSe
    have HC := hide (counts_prog h m x j _ (HD.out _ hSe.b))
    have hBp : B0 ≤ w1.heap.size := by omega
    have hplace := placeAt_succ m l hlt
    rw [hx2] at hplace
    have hvis := HV.out w1.heap.size k hlt
    rw [hx2] at hvis
    have hrm := HR.out k (by omega)
    have HRM := hide hrm
    have hbesE : Besides w1.heap.size wr (wr.alloc (.cells #[.int .i64 x.kind, .int .i64 x.mach, .int .i64 j.v2, .int .i64 j.v3, .int .i64 x.group, .int .i64 j.v5, .string j.v6, .int .i64 j.v7, .int .i64 j.v8, .int .i64 j.v9, .bool j.v10, .int .i64 j.v11, .slice j.A x.old.length j.c, .slice j.A13 j.n13 j.c13, .slice j.A14 j.n14 j.c14, .int .i64 x.hitem, .int .i64 j.v16, .int .i64 x.hstate, .int .i64 j.v18, .int .i64 j.v19, .bool x.gone, .int .i64 x.outcome] 50)) := Besides.below hbe
    have HBE := hide hbe
    clear hbe hSe hrm
    cases hcb : countsB m x
    · rw [stepP, hcb, if_neg (by decide)] at hplace
      rw [hplace, hcb] at hvis
      have HVI := hide hvis
      have HPL := hide hplace
      have HBS := hide hbesE
      clear hvis hplace hbesE
      go_wp2_with (first
       | (refine wpList_load_mid (op := ⟨some 18, _, _, _, _, _⟩) rfl 50 _ rfl b (off + k * 22) rfl [.int .i64 x.kind, .int .i64 x.mach, .int .i64 j.v2, .int .i64 j.v3, .int .i64 x.group, .int .i64 j.v5, .string j.v6, .int .i64 j.v7, .int .i64 j.v8, .int .i64 j.v9, .bool j.v10, .int .i64 j.v11, .slice j.A x.old.length j.c, .slice j.A13 j.n13 j.c13, .slice j.A14 j.n14 j.c14, .int .i64 x.hitem, .int .i64 j.v16, .int .i64 x.hstate, .int .i64 j.v18, .int .i64 j.v19, .bool x.gone, .int .i64 x.outcome] _ HCR.out Tryz.underlying50 rfl sizeEv ?_)
       | (refine wpList_store_row (o := ⟨none, .store 50 _ _, _, _, _, _⟩) rfl 50 _ _ rfl wr.heap.size #[.int .i64 x.kind, .int .i64 x.mach, .int .i64 j.v2, .int .i64 j.v3, .int .i64 x.group, .int .i64 j.v5, .string j.v6, .int .i64 j.v7, .int .i64 j.v8, .int .i64 j.v9, .bool j.v10, .int .i64 j.v11, .slice j.A x.old.length j.c, .slice j.A13 j.n13 j.c13, .slice j.A14 j.n14 j.c14, .int .i64 x.hitem, .int .i64 j.v16, .int .i64 x.hstate, .int .i64 j.v18, .int .i64 j.v19, .bool x.gone, .int .i64 x.outcome] rfl rfl 50 _ (heap_alloc_last wr _) sizeEv rfl (ev_one x j) ?_; rw [World.setRow_alloc_new])
       | (refine wpList_load_row (o := ⟨some 20, _, _, _, _, _⟩) rfl 50 _ rfl wr.heap.size rfl 50 #[.int .i64 x.kind, .int .i64 x.mach, .int .i64 j.v2, .int .i64 j.v3, .int .i64 x.group, .int .i64 j.v5, .string j.v6, .int .i64 j.v7, .int .i64 j.v8, .int .i64 j.v9, .bool j.v10, .int .i64 j.v11, .slice j.A x.old.length j.c, .slice j.A13 j.n13 j.c13, .slice j.A14 j.n14 j.c14, .int .i64 x.hitem, .int .i64 j.v16, .int .i64 x.hstate, .int .i64 j.v18, .int .i64 j.v19, .bool x.gone, .int .i64 x.outcome] (0, 0) _ (heap_alloc_last wr _) Tryz.underlying50 rfl sizeEv ?_)
       | (go_at_call 49; refine HC.out.mono ?_; rintro e w2 ⟨rfl, hb2⟩
          have HS2 := hide (HSe.out.grow (by simp; omega) hb2)
          obtain ⟨A3, c3, hB3, hP3⟩ := HS2.out.bp
          have y0 := hB3.cell 0
          have yl := hB3.lt
          simp at y0
          have hbs2 := HBS.out.trans (Besides.below hb2)
          have HVk := hide (HVI.out w2 A3 c3 (HM.out _ _ _ _ (by omega) ⟨_, HBX.out⟩ hbs2 hI.out) (by omega) yl HS2.out.b hP3)
          clear hb2 hB3 hP3 hbs2)
       | ((with_reducible refine Calls.mono HVk.out ?_); rintro e w3 ⟨rfl, hInv, hVis⟩
          have HN := hide (And.intro (HS2.out.visited hVis) hInv)
          clear hInv hVis))
      go_roundw
      case rel => exact ⟨k + 1, by omega, by go_num, by rw [HPL.out]; exact HN.out.1, HN.out.2⟩
      case measure => simp [intOf]; omega
    · rw [stepP, hcb, if_pos rfl] at hplace
      rw [hplace, hcb] at hvis
      obtain ⟨q', hq'⟩ : ∃ q', q' = afterP m (placeAt m l k) x := ⟨_, rfl⟩
      rw [← hq'] at hvis hplace
      have HQ := hide hq'
      clear hq'
      have HVI := hide hvis
      have HPL := hide hplace
      have HBS := hide hbesE
      clear hvis hplace hbesE
      go_wp2_with (first
       | (refine wpList_load_mid (op := ⟨some 18, _, _, _, _, _⟩) rfl 50 _ rfl b (off + k * 22) rfl [.int .i64 x.kind, .int .i64 x.mach, .int .i64 j.v2, .int .i64 j.v3, .int .i64 x.group, .int .i64 j.v5, .string j.v6, .int .i64 j.v7, .int .i64 j.v8, .int .i64 j.v9, .bool j.v10, .int .i64 j.v11, .slice j.A x.old.length j.c, .slice j.A13 j.n13 j.c13, .slice j.A14 j.n14 j.c14, .int .i64 x.hitem, .int .i64 j.v16, .int .i64 x.hstate, .int .i64 j.v18, .int .i64 j.v19, .bool x.gone, .int .i64 x.outcome] _ HCR.out Tryz.underlying50 rfl sizeEv ?_)
       | (refine wpList_store_row (o := ⟨none, .store 50 _ _, _, _, _, _⟩) rfl 50 _ _ rfl wr.heap.size #[.int .i64 x.kind, .int .i64 x.mach, .int .i64 j.v2, .int .i64 j.v3, .int .i64 x.group, .int .i64 j.v5, .string j.v6, .int .i64 j.v7, .int .i64 j.v8, .int .i64 j.v9, .bool j.v10, .int .i64 j.v11, .slice j.A x.old.length j.c, .slice j.A13 j.n13 j.c13, .slice j.A14 j.n14 j.c14, .int .i64 x.hitem, .int .i64 j.v16, .int .i64 x.hstate, .int .i64 j.v18, .int .i64 j.v19, .bool x.gone, .int .i64 x.outcome] rfl rfl 50 _ (heap_alloc_last wr _) sizeEv rfl (ev_one x j) ?_; rw [World.setRow_alloc_new])
       | (refine wpList_load_row (o := ⟨some 20, _, _, _, _, _⟩) rfl 50 _ rfl wr.heap.size rfl 50 #[.int .i64 x.kind, .int .i64 x.mach, .int .i64 j.v2, .int .i64 j.v3, .int .i64 x.group, .int .i64 j.v5, .string j.v6, .int .i64 j.v7, .int .i64 j.v8, .int .i64 j.v9, .bool j.v10, .int .i64 j.v11, .slice j.A x.old.length j.c, .slice j.A13 j.n13 j.c13, .slice j.A14 j.n14 j.c14, .int .i64 x.hitem, .int .i64 j.v16, .int .i64 x.hstate, .int .i64 j.v18, .int .i64 j.v19, .bool x.gone, .int .i64 x.outcome] (0, 0) _ (heap_alloc_last wr _) Tryz.underlying50 rfl sizeEv ?_)
       | (go_at_call 49; refine HC.out.mono ?_; rintro e w2 ⟨rfl, hb2⟩
          have HS2 := hide (HSe.out.grow (by simp; omega) hb2)
          obtain ⟨A3, c3, hB3, hP3⟩ := HS2.out.bp
          have y0 := hB3.cell 0
          have yl := hB3.lt
          simp at y0
          have hev2 := (Blk.new wr 50 #[.int .i64 x.kind, .int .i64 x.mach, .int .i64 j.v2, .int .i64 j.v3, .int .i64 x.group, .int .i64 j.v5, .string j.v6, .int .i64 j.v7, .int .i64 j.v8, .int .i64 j.v9, .bool j.v10, .int .i64 j.v11, .slice j.A x.old.length j.c, .slice j.A13 j.n13 j.c13, .slice j.A14 j.n14 j.c14, .int .i64 x.hitem, .int .i64 j.v16, .int .i64 x.hstate, .int .i64 j.v18, .int .i64 j.v19, .bool x.gone, .int .i64 x.outcome]).below hb2 (by simp)
          have HEV2 := hide hev2
          have evl := hev2.lt
          obtain ⟨m0, m1, m2, m3, m4, m5, m6, m7, m8, m9, m10⟩ := MB.cells HS2.out.bm
          have ml := HS2.out.bm.lt
          have hbs2 := HBS.out.trans (Besides.below hb2)
          have HBS2 := hide hbs2
          have HA := hide (after_prog h m x j A3 c3 (placeAt m l k) w2 (HD.out w2 HS2.out.b) hmm (by omega) (((HJ.out.1.more hBr).below (HBE.out.trans (hb2.mono (by simp)))).more (by have := hb2.size; simp at this; omega)) hP3 HRM.out)
          rw [← HQ.out] at HA
          have HB3 := hide hB3
          clear hb2 hB3 hP3 hbs2 hev2)
       | (refine wpList_load_row (o := ⟨some 25, _, _, _, _, _⟩) rfl 50 _ rfl wr.heap.size rfl 50 #[.int .i64 x.kind, .int .i64 x.mach, .int .i64 j.v2, .int .i64 j.v3, .int .i64 x.group, .int .i64 j.v5, .string j.v6, .int .i64 j.v7, .int .i64 j.v8, .int .i64 j.v9, .bool j.v10, .int .i64 j.v11, .slice j.A x.old.length j.c, .slice j.A13 j.n13 j.c13, .slice j.A14 j.n14 j.c14, .int .i64 x.hitem, .int .i64 j.v16, .int .i64 x.hstate, .int .i64 j.v18, .int .i64 j.v19, .bool x.gone, .int .i64 x.outcome] (0, 0) _ HEV2.out Tryz.underlying50 rfl sizeEv ?_)
       | (go_at_call 50; refine HA.out.mono ?_; rintro e w4 ⟨A4, c4, rfl, hp4, hb4⟩
          have hb04 := HB3.out.below hb4 HB3.out.lt
          have y40 := hb04.cell 0
          have y4f := hb04.frozen 0
          have y4l := hb04.lt
          simp at y40
          have HS4 := hide (HS2.out.next (by omega) hBp hb4 hp4)
          have hbs4 := (HBS2.out.trans (Besides.below hb4)).trans (Besides.set_ w4 0 (.slice A4 q'.length c4))
          have HVk := hide (HVI.out _ A4 c4 (HM.out _ _ _ _ (by omega) ⟨_, HBX.out⟩ hbs4 hI.out) (by omega) (by simpa using y4l) HS4.out.b (hp4.keep (KT.set_ hb04 (by decide) 0 _) (KT.set_ hb04 (by decide) 0 _)))
          clear hb4 hp4 hb04 hbs4)
       | ((with_reducible refine Calls.mono HVk.out ?_); rintro e w3 ⟨rfl, hInv, hVis⟩
          have HN := hide (And.intro (HS4.out.visited hVis) hInv)
          clear hInv hVis))
      go_roundw
      case rel => exact ⟨k + 1, by omega, by go_num, by rw [HPL.out]; exact HN.out.1, HN.out.2⟩
      case measure => simp [intOf]; omega
  · obtain rfl : k = l.length := by omega
    go_wp2_with fail
    go_end0
    exact ⟨rfl, w1.heap.size, by omega, hI.out⟩
end Go.Proofs.YtmjcgcnpeoemdaaGreatDoor
