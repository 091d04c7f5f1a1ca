/- A part of the claim: see its last text. -/
import Derived.Test.YtlnjaemdelnceaaGreatDoorShelf
import Derived.Test.YtlnjaemdelnceaaGreatDoorUK03
import Derived.Deep.Draws
import Derived.Test.YtlnjaemdelnceaaGreatDoorUK04
import Derived.Test.YtlnjaemdelnceaaGreatDoorUK01
import Derived.Laws.ResultCell
import Derived.Laws.Rows
import Derived.Laws.CopyOwn
import Derived.Deep.RegionLaw
import Derived.Deep.CutRange

set_option maxRecDepth 100000
set_option maxHeartbeats 16000000
namespace Go.Proofs.YtlnjaemdelnceaaGreatDoor
open Go Go.RowKit Go.Proofs
theorem below_drewN (w : World) (n : Nat) : Below w.heap.size w (w.drewN n) := by
 induction n with
 | zero => exact Below.refl _ _
 | succ n ih => exact ih.drew
theorem equal_ints (A1 A2 : Option Addr) (c1 c2 : Nat) (l m : List Int) (w : World) (h1 : Ints w w.heap.size A1 l) (h2 : Ints w w.heap.size A2 m) (hl : l.length ≤ 9223372036854775807) (hm : m.length ≤ 9223372036854775807) :
    Calls Tryz.prog 213 #[.slice A1 l.length c1, .slice A2 m.length c2] w fun e w' => e = .returned (.bool (decide (l = m))) ∧ Below w.heap.size w w' := by
 by_cases hlen : l.length = m.length
 · by_cases hn : l = []
   · subst hn
     have hm0 : m = [] := List.eq_nil_of_length_eq_zero hlen.symm
     subst hm0
     exact (Tryz.slices_Equal_int_empty A1 A2 c1 0 c2 w (by simp)).mono fun e w' ⟨he, hw⟩ => ⟨by rw [he]; rfl, hw ▸ Below.refl _ _⟩
   · have hn2 : m ≠ [] := by intro h; subst h; exact hn (List.eq_nil_of_length_eq_zero hlen)
     obtain ⟨b1, o1, rfl, hb1, hc1⟩ := h1.form hn
     obtain ⟨b2, o2, rfl, hb2, hc2⟩ := h2.form hn2
     refine (Tryz.slices_Equal_int b1 o1 l.length c1 b2 o2 m.length c2 l m w (Nat.le_refl _) (Nat.le_refl _) hl hm hc1 hc2).mono fun e w' ⟨he, q, hw⟩ => ⟨?_, hw ▸ below_drewN w q⟩
     rw [he, List.take_length, List.take_length]
     congr 2
     rw [Bool.eq_iff_iff]; simp
 · refine (Tryz.slices_Equal_int_lens A1 A2 l.length c1 m.length c2 w hlen).mono fun e w' ⟨he, hw⟩ => ⟨?_, hw ▸ Below.refl _ _⟩
   have : ¬ l = m := fun h => hlen (by rw [h])
   rw [he]; simp [this]
theorem Ints.newRow (w : World) (t : TypeId) (l : List Int) : Ints (w.alloc (.cells (l.map (Value.int .i64)).toArray t)) (w.heap.size + 1) (some ⟨w.heap.size, 0, none⟩) l := by
 have := Reads.newRow w (l.map (Value.int .i64)).toArray t l.length 1 (by simp)
 simpa [Ints] using this
theorem contains_ints (A : Option Addr) (c : Nat) (l : List Int) (s : Int) (w : World) (hl : l.length ≤ 9223372036854775807) (h : Ints w w.heap.size A l) :
    Calls Tryz.prog 46 #[.slice A l.length c, .int .i64 s] w fun e w' => e = .returned (.bool (decide (s ∈ l))) ∧ w = w' := by
 by_cases hn : l = []
 · subst hn
   exact (Tryz.slices_Contains_int_empty A c s w).mono fun e w' ⟨he, hw⟩ => ⟨by rw [he]; rfl, hw.symm⟩
 · obtain ⟨b, off, rfl, hb, hc⟩ := h.form hn
   refine (Tryz.slices_Contains_int b off l.length c l s w (Nat.le_refl _) hl hc).mono fun e w' ⟨he, hw⟩ => ⟨?_, hw.symm⟩
   rw [he, List.take_length]
   simp
def itN (m : Mod) (n : Int) : ByteArray := (m.iT[(n - 1).toNat]?.map (·.name)).getD ⟨#[]⟩
theorem itN_is (m : Mod) {q : Nat} (h : q < m.iT.length) : itN m ((q : Int) + 1) = m.iT[q].name := by
 simp [itN, h]
def itNs (m : Mod) (l : List Int) : List ByteArray := (l.filter fun n => decide (0 < n)).map (itN m)
theorem itNs_yes (m : Mod) (l : List Int) {k q : Nat} (h : k < l.length) (hq : l[k] = (q : Int) + 1) (hm : q < m.iT.length) : itNs m (l.take k) ++ [m.iT[q].name] = itNs m (l.take (k + 1)) := by
 unfold itNs
 rw [List.take_succ_eq_append_getElem h, List.filter_append, List.map_append, hq]
 rw [List.filter_cons_of_pos (by simp), List.filter_nil, List.map_singleton, itN_is m hm]
theorem itNs_no (m : Mod) (l : List Int) {k : Nat} (h : k < l.length) (hq : l[k] ≤ 0) : itNs m (l.take k) = itNs m (l.take (k + 1)) := by
 unfold itNs
 rw [List.take_succ_eq_append_getElem h, List.filter_append, List.map_append]
 rw [List.filter_cons_of_neg (by simp; omega), List.filter_nil]; simp
theorem itNs_len (m : Mod) (l : List Int) : (itNs m l).length ≤ l.length := by
 unfold itNs; rw [List.length_map]; exact List.length_filter_le _ _
theorem blk_new (w : World) (t : TypeId) (cs : Array Value) {g : Nat} (h : g = w.heap.size) : Blk (w.alloc (.cells cs t)) g t cs := by subst h; exact Blk.new w t cs
def zeroDc : Array Value := #[.int .i64 0, .string ⟨#[]⟩, .slice none 0 0, .slice none 0 0, .int .i64 0, .bool false]
def cellsRD (x : RuleM) (v nv : Value) : Array Value := #[.int .i64 (10 + x.kind), .string ⟨#[]⟩, v, nv, .int .i64 x.by_, .bool x.always]
structure RD (w wr : World) (h : MH) (m : Mod) (x : RuleM) (cr : Array Value) (v nv : Value) (l : List ByteArray) : Prop where
 mw : MW w w.heap.size wr h m
 br : Blk wr (w.heap.size + 1) 32 cr
 bz : Blk wr (w.heap.size + 1 + 1) 102 zeroDc
 bd : Blk wr (w.heap.size + 1 + 1 + 1) 102 (cellsRD x v nv)
 bi : Blk wr (w.heap.size + 1 + 1 + 1 + 1) 3 #[.int .i64 x.item, .int .i64 x.other]
 own : OwnS (w.heap.size + 1 + 1 + 1 + 1 + 1) wr v l
section
variable {w wr w2 : World} {h : MH} {m : Mod} {x : RuleM} {cr : Array Value} {v nv v3 : Value} {l l3 : List ByteArray}
theorem RD.drew (d : RD w wr h m x cr v nv l) : RD w wr.drew h m x cr v nv l := ⟨d.mw.drew, d.br, d.bz, d.bd, d.bi, d.own⟩
theorem RD.grow (d : RD w wr h m x cr v nv l) (hb : Below wr.heap.size wr w2) : RD w w2 h m x cr v nv l :=
 ⟨d.mw.grow hb, d.br.below hb d.br.lt, d.bz.below hb d.bz.lt, d.bd.below hb d.bd.lt, d.bi.below hb d.bi.lt, d.own.below hb⟩
theorem RD.put (d : RD w wr h m x cr v nv l) (hO : OwnS (w.heap.size + 1 + 1 + 1 + 1 + 1) w2 v3 l3) (hg : wr.grownBy w2 v.ownBlock) : RD w (w2.setCell ⟨w.heap.size + 1 + 1 + 1, 2, none⟩ v3) h m x cr v3 nv l3 := by
 have hlo : ∀ k, v.ownBlock = some k → w.heap.size + 1 + 1 + 1 + 1 + 1 ≤ k := fun k hk => (d.own.lt k hk).1
 have m2 : MW w w.heap.size w2 h m := ⟨d.mw.b.grown hg d.mw.b.size fun k hk => by have := hlo k hk; omega, d.mw.blk.grown hg fun e => by have := hlo _ e.symm; omega⟩
 have hbut : But (w.heap.size + 1 + 1 + 1) w2.heap.size w2 (w2.setCell ⟨w.heap.size + 1 + 1 + 1, 2, none⟩ v3) := But.set_ _ _ _
 refine ⟨⟨m2.b.trans ((hbut.below (by have := (d.bd.grown hg fun e => by have := hlo _ e.symm; omega).lt; omega)).mono (by omega)), m2.blk.far (by simp; omega) _⟩, (d.br.grown hg fun e => by have := hlo _ e.symm; omega).far (by simp) _, (d.bz.grown hg fun e => by have := hlo _ e.symm; omega).far (by simp) _, ?_, (d.bi.grown hg fun e => by have := hlo _ e.symm; omega).far (by simp) _, hO.but hbut (by omega)⟩
 have := (d.bd.grown hg fun e => by have := hlo _ e.symm; omega).set_ 2 v3
 exact this
theorem RD.cell2 (d : RD w wr h m x cr v nv l) (hg : wr.grownBy w2 v.ownBlock) : w2.cell? ⟨w.heap.size + 1 + 1 + 1, 2, none⟩ = some v ∧ w.heap.size + 1 + 1 + 1 < w2.heap.size ∧ w2.frozen? ⟨w.heap.size + 1 + 1 + 1, 2, none⟩ = false := by
 have hb := d.bd.grown hg fun e => by have := (d.own.lt _ e.symm).1; omega
 exact ⟨hb.cell 2, hb.lt, hb.frozen 2⟩
theorem RD.lt (d : RD w wr h m x cr v nv l) : w.heap.size + 1 + 1 + 1 + 1 < wr.heap.size := d.bi.lt
end
def numsR (x : RuleM) : List Int := if x.kind ∈ [1, 2, 5, 6] then [x.n] else []
def RuleDR (m : Mod) (x : RuleM) (w : World) (e : Ending) (w' : World) : Prop := ∃ v nv, e = .returned (.agg (cellsRD x v nv)) ∧ OwnS w.heap.size w' v (itNs m [x.item, x.other] ++ x.machines.map (mchN m)) ∧ OwnI w.heap.size w' nv (numsR x) ∧ Below w.heap.size w w'
theorem OwnI.lower {w : World} {B B' : Nat} {v : Value} {l : List Int} (h : OwnI B' w v l) (hB : B ≤ B') : OwnI B w v l := by
 refine ⟨h.1, ?_⟩
 rcases h.2 with h0 | ⟨g, cap, cur, e1, e2, h3⟩
 · exact .inl h0
 · exact .inr ⟨g, cap, cur, e1, Nat.le_trans hB e2, h3⟩
theorem But.setRow {g B : Nat} (w : World) (cs : Array Value) : But g B w (w.setRow g cs) := ⟨rfl, rfl, rfl, by simp, fun k _ hn => setRow_other w g k cs hn⟩
theorem sizeDc : (Tryz.prog.info? 102).map (·.size) = some 6 := by kernel_rfl
theorem cellsRD_one (x : RuleM) (A : Option Addr) (n c : Nat) (B : Option Addr) (k d : Nat) : (cellsRD x (.slice A n c) (.slice B k d)).all (·.oneCell') = true := by simp [cellsRD, Value.oneCell']
theorem numsR_is (x : RuleM) {q : Bool} (h : q = decide (x.kind ∈ ([1, 2, 5, 6] : List Int))) : numsR x = bif q then [x.n] else [] := by
 subst h
 unfold numsR
 by_cases hk : x.kind ∈ ([1, 2, 5, 6] : List Int)
 · rw [if_pos hk, decide_eq_true hk]; rfl
 · rw [if_neg hk, decide_eq_false hk]; rfl
theorem rdl_end {w W : World} {m : Mod} {x : RuleM} {v nv : Value} {T : Array Value} (b0 : Blk W (w.heap.size + 1 + 1) 102 (cellsRD x v nv)) (hv : OwnS w.heap.size W v (itNs m [x.item, x.other] ++ x.machines.map (mchN m))) (hn : OwnI w.heap.size W nv (numsR x)) (bb : Below w.heap.size w W) (h4 : T.getD 4 undef = .pointer (some ⟨w.heap.size + 1 + 1, 0, none⟩)) :
    bodyPost Tryz.prog Tryz.f103 (RuleDR m x w) Exit.ret { tmps := T, defers := [] } W :=
 bodyPost_ret (v := .agg (cellsRD x v nv)) (w := W) (results_cell_row (P := Tryz.prog) rfl T W (w.heap.size + 1 + 1) 102 _ (0, 0) _ h4 b0 Tryz.underlying102 rfl (by kernel_rfl)) rfl ⟨v, nv, rfl, hv, hn, bb⟩
theorem ruleDecl19 (h : MH) (m : Mod) (x : RuleM) (A : Option Addr) (c : Nat) (w : World) (d : MD w w.heap.size h m) (hl : Ints w w.heap.size A x.machines) (hn : ∀ n ∈ x.machines, 1 ≤ n ∧ n ≤ (m.mT.length : Int)) (hs : x.machines.length ≤ 1000) (hk0 : 0 ≤ x.kind) (hk1 : x.kind ≤ 100) (hi : x.item ≤ (m.iT.length : Int)) (ho : x.other ≤ (m.iT.length : Int)) :
    Calls Tryz.prog 103 #[.agg #[.slice h.s m.sT.length h.sc, .slice h.f m.fT.length h.fc, .slice h.r m.rT.length h.rc, .slice h.m m.mT.length h.mc, .slice h.l m.lT.length h.lc, .slice h.i m.iT.length h.ic, .int .i64 m.dT, .int .i64 m.oT, .int .i64 m.vT, .int .i64 m.aT, .slice h.u m.uT.length h.uc], .agg #[.int .i64 x.kind, .int .i64 x.item, .int .i64 x.other, .int .i64 x.n, .int .i64 x.by_, .bool x.always, .slice A x.machines.length c]] w (RuleDR m x w) := by
 have hR0 : RD w (((((w.alloc (.cells #[.slice h.s m.sT.length h.sc, .slice h.f m.fT.length h.fc, .slice h.r m.rT.length h.rc, .slice h.m m.mT.length h.mc, .slice h.l m.lT.length h.lc, .slice h.i m.iT.length h.ic, .int .i64 m.dT, .int .i64 m.oT, .int .i64 m.vT, .int .i64 m.aT, .slice h.u m.uT.length h.uc] 29)).alloc (.cells #[.int .i64 x.kind, .int .i64 x.item, .int .i64 x.other, .int .i64 x.n, .int .i64 x.by_, .bool x.always, .slice A x.machines.length c] 32)).alloc (.cells zeroDc 102)).alloc (.cells (cellsRD x (.slice none 0 0) (.slice none 0 0)) 102)).alloc (.cells #[.int .i64 x.item, .int .i64 x.other] 3)) h m x #[.int .i64 x.kind, .int .i64 x.item, .int .i64 x.other, .int .i64 x.n, .int .i64 x.by_, .bool x.always, .slice A x.machines.length c] (.slice none 0 0) (.slice none 0 0) (itNs m ([x.item, x.other].take 0)) :=
  ⟨(((((MW.start w h m).grow ((Below.refl _ _).alloc (Nat.le_refl _) _)).grow ((Below.refl _ _).alloc (Nat.le_refl _) _)).grow ((Below.refl _ _).alloc (Nat.le_refl _) _)).grow ((Below.refl _ _).alloc (Nat.le_refl _) _)),
    ((((blk_new _ _ _ (by simp)).alloc _).alloc _).alloc _), (((blk_new _ _ _ (by simp)).alloc _).alloc _), ((blk_new _ _ _ (by simp)).alloc _), blk_new _ _ _ (by simp), OwnS.nil_ _ _⟩
 have HR0 := hide hR0
 have D := hide d; have HL := hide hl; have HN := hide hn; have HI := hide hi; have HO := hide ho
 have hB2 : ∀ b : Bool, b = false ∨ b = true := fun b => by cases b <;> simp
 obtain ⟨q, hq⟩ : ∃ q, q = decide (x.kind ∈ ([1, 2, 5, 6] : List Int)) := ⟨_, rfl⟩
 have HC := hide fun (X : World) (b : Nat) (hb : b = X.heap.size) => (show Calls Tryz.prog 46 #[.slice (some ⟨b, 0, none⟩) 4 4, .int .i64 x.kind] (X.alloc (.cells #[.int .i64 1, .int .i64 2, .int .i64 5, .int .i64 6] 3)) fun e w' => e = .returned (.bool q) ∧ X.alloc (.cells #[.int .i64 1, .int .i64 2, .int .i64 5, .int .i64 6] 3) = w' from by
  rw [hq]
  exact contains_ints (some ⟨b, 0, none⟩) 4 [1, 2, 5, 6] x.kind (X.alloc (.cells #[.int .i64 1, .int .i64 2, .int .i64 5, .int .i64 6] 3)) (by decide) (by subst hb; exact (Ints.newRow X 3 [1, 2, 5, 6]).more (by simp)))
 have HNU := hide (numsR_is x hq)
 clear d hl hn hi ho hR0 hq
 go_enter Tryz.func103, Tryz.ntmps103
 go_wp2_with fail
 go_loopw [7, 22] (fun j i wr => ∃ k : Nat, k ≤ 2 ∧ i = .int .i64 k ∧ Hid (∃ v, RD w wr h m x #[.int .i64 x.kind, .int .i64 x.item, .int .i64 x.other, .int .i64 x.n, .int .i64 x.by_, .bool x.always, .slice A x.machines.length c] v (.slice none 0 0) (itNs m ([x.item, x.other].take k)))) (fun _ i _ => 2 - (intOf i).toNat)
 case atStart => exact ⟨0, by omega, rfl, _, HR0.out⟩
 case round =>
  clear HR0
  obtain ⟨k, hk, rfl, hR⟩ := hrel
  obtain ⟨v, r⟩ := hR.out
  clear hR
  have HR := hide r
  obtain ⟨a0, a1, a2, a3, a4, a5, a6, a7, a8, a9, a10⟩ := MB.cells r.mw.blk
  have d2 : wr.cell? ⟨w.heap.size + 1 + 1 + 1, 2, none⟩ = some v := r.bd.cell 2
  have hL1 := r.mw.lt
  have hL2 := r.lt
  have hL3 := r.bd.lt
  clear a0 a1 a2 a3 a4 a6 a7 a8 a9 a10 r
  by_cases hlt : k < 2
  · obtain ⟨nn, hnn⟩ : ∃ nn, nn = [x.item, x.other][k]'(by simpa using hlt) := ⟨_, rfl⟩
    have x0 : wr.cell? ⟨w.heap.size + 1 + 1 + 1 + 1, k, none⟩ = some (.int .i64 nn) := by
     rw [HR.out.bi.cell k, hnn]
     rcases k with _ | _ | k
     · rfl
     · rfl
     · omega
    have hni : nn ≤ (m.iT.length : Int) := by
     rw [hnn]
     rcases k with _ | _ | k
     · exact HI.out
     · exact HO.out
     · omega
    have HE := hide hnn
    have hkI : (k : Int) < 2 := by omega
    clear hnn
    rcases hB2 (decide (0 < nn)) with g | g
    · have HR2 : Hid (RD w wr h m x #[.int .i64 x.kind, .int .i64 x.item, .int .i64 x.other, .int .i64 x.n, .int .i64 x.by_, .bool x.always, .slice A x.machines.length c] v (.slice none 0 0) (itNs m ([x.item, x.other].take (k + 1)))) := hide (by
        rw [← itNs_no m [x.item, x.other] (by simpa using hlt) (by rw [← HE.out]; simpa using g)]
        exact HR.out)
      clear a5 d2
      go_wp2_with fail
      go_roundw
      case rel => exact ⟨k + 1, by omega, by go_num, _, HR2.out⟩
      case measure => simp [intOf]; omega
    · have hpos : 0 < nn := of_decide_eq_true g
      obtain ⟨q, hq⟩ : ∃ q : Nat, nn = (q : Int) + 1 := ⟨(nn - 1).toNat, by omega⟩
      have hqm : q < m.iT.length := by omega
      have HE2 := hide (itNs_yes m [x.item, x.other] (by simpa using hlt) (HE.out.symm.trans hq) hqm)
      obtain ⟨b, off, A2, c2, hA2, hb2, y0, _⟩ := (HR.out.mw.md D.out).dI.item hqm
      have ml := D.out.il
      rw [hA2] at a5
      have hqI : (q : Int) < (m.iT.length : Int) := by omega
      have hwq : IntKind.i64.wrap (q : Int) = q := IntWalk.i64_in _ (by omega)
      subst hq
      obtain ⟨nl, hnl⟩ : ∃ nl, nl = itNs m ([x.item, x.other].take k) := ⟨_, rfl⟩
      have HNL := hide (show nl.length ≤ 2 by rw [hnl]; have := itNs_len m ([x.item, x.other].take k); simp at this; omega)
      rw [← hnl] at HR HE2
      clear hA2 hpos hni hnl
      go_wp2_with fail
      go_region_law
       ((first
         | (refine step_append_strs rfl _ _ rfl (w.heap.size + 1 + 1 + 1 + 1 + 1) v nl rfl (HR.out.drew.own.alloc _) _ _ 1 [m.iT[q].name] rfl (Strs.newRow2 _ _ _ rfl) (by have := HNL.out; simp; omega) (by simp; omega) ?_
            intro v3 x3 hO3 hg3 hv3
            have hdr := HR.out.drew.grow ((Below.refl _ _).alloc (Nat.le_refl _) (.cells #[.string m.iT[q].name] 9))
            have k3 := hdr.cell2 hg3
            have HR3 := hide (hdr.put hO3 hg3)
            rw [HE2.out] at HR3
            clear hg3 hv3 hdr
            have hfm := hO3.form3
            obtain ⟨A3, c3, hvs, _, _⟩ := hfm
            obtain ⟨n3, hn3⟩ : ∃ n3, n3 = (nl ++ [m.iT[q].name]).length := ⟨_, rfl⟩
            rw [← hn3] at hvs
            clear hn3 hO3
            subst hvs)))
      all_goals
       go_wp2_with fail
       go_roundw
       case rel => exact ⟨k + 1, by omega, by go_num, _, HR3.out⟩
       case measure => simp [intOf]; omega
  · obtain rfl : k = 2 := by omega
    rw [show [x.item, x.other].take 2 = [x.item, x.other] from rfl] at HR
    obtain ⟨nl, hnl⟩ : ∃ nl, nl = itNs m [x.item, x.other] := ⟨_, rfl⟩
    have HNL := hide (show nl.length ≤ 2 by rw [hnl]; exact itNs_len m [x.item, x.other])
    have HV := hide hnl
    rw [← hnl] at HR
    clear hnl hlt hk a5
    obtain ⟨nm, hnm⟩ : ∃ nm, nm = x.machines.map (mchN m) := ⟨_, rfl⟩
    have HNM := hide (show nm.length ≤ 1000 by rw [hnm, List.length_map]; exact hs)
    have hdr0 := HR.out.drew
    have hm0 := machines19 h m A c x.machines wr.drew (hdr0.mw.md D.out) (HL.out.grow hdr0.mw.b) HN.out hs
    unfold MachN at hm0
    rw [← hnm] at hm0
    have HM := hide hm0
    have HNV := hide hnm
    obtain ⟨a0, a1, a2, a3, a4, a5, a6, a7, a8, a9, a10⟩ := MB.cells HR.out.mw.blk
    have b6 : wr.cell? ⟨w.heap.size + 1, 6, none⟩ = some (.slice A x.machines.length c) := HR.out.br.cell 6
    have hL4 := HR.out.br.lt
    clear hdr0 hm0 hnm
    go_upto_region 8 with (fail)
    go_cut [47] from 41 to 49 (fun u wx => ∃ A3 n3 c3, u = .slice A3 n3 c3 ∧ RD w wx h m x #[.int .i64 x.kind, .int .i64 x.item, .int .i64 x.other, .int .i64 x.n, .int .i64 x.by_, .bool x.always, .slice A x.machines.length c] (.slice A3 n3 c3) (.slice none 0 0) (nl ++ nm))
    case first =>
     go_region_law
      ((first
        | (go_simp; go_at_call 102; refine HM.out.mono ?_; rintro e2 y ⟨v2, rfl, hO2, hb2⟩
           have HY := hide (HR.out.drew.grow hb2)
           have dy : y.cell? ⟨w.heap.size + 1 + 1 + 1, 2, none⟩ = some v := HY.out.bd.cell 2
           have yl := HY.out.bd.lt
           have yf := HY.out.bd.frozen 2
           obtain ⟨A2, c2, hv2, _, hS2⟩ := hO2.form3
           have HS2 := hide hS2
           obtain ⟨n2, hn2⟩ : ∃ n2, n2 = nm.length := ⟨_, rfl⟩
           rw [← hn2] at hv2
           have HN2 := hide hn2
           subst hv2
           clear hO2 hb2 hS2 hn2
           dsimp only)
        | (refine step_append_strs rfl _ _ rfl (w.heap.size + 1 + 1 + 1 + 1 + 1) v nl rfl HY.out.own _ A2 c2 nm (by rw [← HN2.out]; rfl) HS2.out (by have := HNL.out; have := HNM.out; omega) HY.out.lt ?_
           intro v3 x3 hO3 hg3 hv3
           have k3 := HY.out.cell2 hg3
           have HR3 := hide (HY.out.put hO3 hg3)
           clear hg3 hv3
           have hfm := hO3.form3
           obtain ⟨A3, c3, hvs, _, _⟩ := hfm
           obtain ⟨n3, hn3⟩ : ∃ n3, n3 = (nl ++ nm).length := ⟨_, rfl⟩
           rw [← hn3] at hvs
           clear hn3 hO3
           subst hvs)))
     all_goals
      go_wp2_with fail
      go_meet
      exact ⟨_, _, _, rfl, HR3.out⟩
    case rest =>
     obtain ⟨A3, n3, c3, rfl, hr3⟩ := hcut
     have HR3 := hide hr3
     clear hr3 a0 a1 a2 a3 a4 a5 a6 a7 a8 a9 a10 d2 hL1 hL2 hL3 hL4 b6
     obtain ⟨w8, hw8⟩ : ∃ w8, w8 = wc := ⟨_, rfl⟩
     rw [← hw8] at HR3 ⊢
     have e0 : w8.cell? ⟨w.heap.size + 1 + 1 + 1, 0, none⟩ = some (.int .i64 (10 + x.kind)) := HR3.out.bd.cell 0
     have e1 : w8.cell? ⟨w.heap.size + 1 + 1 + 1, 1, none⟩ = some (.string ⟨#[]⟩) := HR3.out.bd.cell 1
     have e2 : w8.cell? ⟨w.heap.size + 1 + 1 + 1, 2, none⟩ = some (.slice A3 n3 c3) := HR3.out.bd.cell 2
     have e3 : w8.cell? ⟨w.heap.size + 1 + 1 + 1, 3, none⟩ = some (.slice none 0 0) := HR3.out.bd.cell 3
     have e4 : w8.cell? ⟨w.heap.size + 1 + 1 + 1, 4, none⟩ = some (.int .i64 x.by_) := HR3.out.bd.cell 4
     have e5 : w8.cell? ⟨w.heap.size + 1 + 1 + 1, 5, none⟩ = some (.bool x.always) := HR3.out.bd.cell 5
     have r0 : w8.cell? ⟨w.heap.size + 1, 0, none⟩ = some (.int .i64 x.kind) := HR3.out.br.cell 0
     have r3 : w8.cell? ⟨w.heap.size + 1, 3, none⟩ = some (.int .i64 x.n) := HR3.out.br.cell 3
     have s1 := HR3.out.br.lt
     have s3 := HR3.out.bd.lt
     have s4 := HR3.out.lt
     have f3 := ((HR3.out.bd.alloc (.cells #[.int .i64 1, .int .i64 2, .int .i64 5, .int .i64 6] 3)).alloc (.cells #[.int .i64 x.n] 3)).frozen 3
     have HZ := hide HR3.out.bz
     have HS := hide HR3.out.own
     have HB8 := hide HR3.out.mw.b
     have HBD3 := hide HR3.out.bd
     have HS5 := hide (show w.heap.size + 1 + 1 + 1 + 1 + 1 ≤ w8.heap.size by omega)
     rw [HV.out, HNV.out] at HS
     clear hw8 HR3 s4 HR HM HNM HNL HV HNV
     rcases hB2 q with hq | hq
     · have HNQ := hide (show numsR x = [] by rw [HNU.out, hq]; rfl)
       subst hq
       clear f3
       go_wp2_with (first
        | (go_at_call 46; refine (HC.out _ _ (by simp)).mono ?_; rintro e w9 ⟨rfl, rfl⟩)
        | (refine wpList_store_row (o := ⟨none, .store 102 _ _, _, _, _, _⟩) rfl 102 _ _ rfl (w.heap.size + 1 + 1) (cellsRD x (.slice A3 n3 c3) (.slice none 0 0)) rfl rfl 102 zeroDc (HZ.out.alloc _) sizeDc rfl (cellsRD_one _ _ _ _ _ _ _) ?_))
       refine rdl_end (setRow_heap _ _ zeroDc _ _ _ (HZ.out.alloc _)) (OwnS.lower ((HS.out.alloc _).but (But.setRow _ _) (by omega)) (by omega)) (by rw [HNQ.out]; exact OwnI.nil_ _ _) (below_setRow (HB8.out.alloc HB8.out.size _) (by omega) _) ?_
       rfl
     · have HNQ := hide (show numsR x = [x.n] by rw [HNU.out, hq]; rfl)
       subst hq
       obtain ⟨wz, hwz⟩ : ∃ wz, wz = w8.setCell ⟨w.heap.size + 1 + 1 + 1, 3, none⟩ (.slice (some ⟨w8.heap.size + 1, 0, none⟩) 1 1) := ⟨_, rfl⟩
       obtain ⟨wa, hwa⟩ : ∃ wa, wa = (wz.alloc (.cells #[.int .i64 1, .int .i64 2, .int .i64 5, .int .i64 6] 3)).alloc (.cells #[.int .i64 x.n] 3) := ⟨_, rfl⟩
       have hbut : But (w.heap.size + 1 + 1 + 1) w8.heap.size w8 wz := by rw [hwz]; exact But.set_ _ _ _
       have hzs : wz.heap.size = w8.heap.size := by rw [hwz]; simp [World.setCell]
       have hle5 := HS5.out
       have HBD : Hid (Blk wa (w.heap.size + 1 + 1 + 1) 102 (cellsRD x (.slice A3 n3 c3) (.slice (some ⟨w8.heap.size + 1, 0, none⟩) 1 1))) := hide (by rw [hwa, hwz]; exact ((HBD3.out.set_ 3 (.slice (some ⟨w8.heap.size + 1, 0, none⟩) 1 1)).alloc _).alloc _)
       have HZA : Hid (Blk wa (w.heap.size + 1 + 1) 102 zeroDc) := hide (by rw [hwa]; exact ((hbut.blk HZ.out (by omega) (by omega)).alloc _).alloc _)
       have HSA := hide (show OwnS (w.heap.size + 1 + 1 + 1 + 1 + 1) wa _ _ by rw [hwa]; exact ((OwnS.but HS.out hbut (by omega)).alloc _).alloc _)
       have HIA : Hid (OwnI (w.heap.size + 1 + 1 + 1 + 1 + 1) wa (.slice (some ⟨w8.heap.size + 1, 0, none⟩) 1 1) [x.n]) := hide (by
        have := OwnI.new (B := w.heap.size + 1 + 1 + 1 + 1 + 1) (wz.alloc (.cells #[.int .i64 1, .int .i64 2, .int .i64 5, .int .i64 6] 3)) [x.n] (by simp; omega) (by simp [maxLen])
        rw [hwa]
        simpa [hzs] using this)
       have HBA : Hid (Below w.heap.size w wa) := hide (by
        rw [hwa]
        exact ((HB8.out.trans ((hbut.below (by omega)).mono (by omega))).alloc (by omega) _).alloc (by simp; omega) _)
       have HWA : Hid (wa = ((w8.setCell ⟨w.heap.size + 1 + 1 + 1, 3, none⟩ (.slice (some ⟨w8.heap.size + 1, 0, none⟩) 1 1)).alloc (.cells #[.int .i64 1, .int .i64 2, .int .i64 5, .int .i64 6] 3)).alloc (.cells #[.int .i64 x.n] 3)) := hide (by rw [hwa, hwz])
       clear hwa hwz hbut hzs hle5
       have c3' := ((HBD3.out.alloc (.cells #[.int .i64 1, .int .i64 2, .int .i64 5, .int .i64 6] 3)).alloc (.cells #[.int .i64 x.n] 3)).cell 3
       have s3' : w.heap.size + 1 + 1 + 1 < w8.heap.size + 1 := by omega
       simp [cellsRD] at c3'
       go_upto_region 11 with (first
        | (go_at_call 46; refine (HC.out _ _ (by simp)).mono ?_; rintro e w9 ⟨rfl, rfl⟩))
       rw [← HWA.out]
       clear e0 e1 e2 e3 e4 e5 r0 r3 f3 c3' s3'
       have e0 : wa.cell? ⟨w.heap.size + 1 + 1 + 1, 0, none⟩ = some (.int .i64 (10 + x.kind)) := HBD.out.cell 0
       have e1 : wa.cell? ⟨w.heap.size + 1 + 1 + 1, 1, none⟩ = some (.string ⟨#[]⟩) := HBD.out.cell 1
       have e2 : wa.cell? ⟨w.heap.size + 1 + 1 + 1, 2, none⟩ = some (.slice A3 n3 c3) := HBD.out.cell 2
       have e3 : wa.cell? ⟨w.heap.size + 1 + 1 + 1, 3, none⟩ = some (.slice (some ⟨w8.heap.size + 1, 0, none⟩) 1 1) := HBD.out.cell 3
       have e4 : wa.cell? ⟨w.heap.size + 1 + 1 + 1, 4, none⟩ = some (.int .i64 x.by_) := HBD.out.cell 4
       have e5 : wa.cell? ⟨w.heap.size + 1 + 1 + 1, 5, none⟩ = some (.bool x.always) := HBD.out.cell 5
       go_wp2_with (first
        | (refine wpList_store_row (o := ⟨none, .store 102 _ _, _, _, _, _⟩) rfl 102 _ _ rfl (w.heap.size + 1 + 1) (cellsRD x (.slice A3 n3 c3) (.slice (some ⟨w8.heap.size + 1, 0, none⟩) 1 1)) rfl rfl 102 zeroDc HZA.out sizeDc rfl (cellsRD_one _ _ _ _ _ _ _) ?_))
       refine rdl_end (setRow_heap _ _ zeroDc _ _ _ HZA.out) (OwnS.lower (HSA.out.but (But.setRow _ _) (by omega)) (by omega)) (by rw [HNQ.out]; exact OwnI.lower (HIA.out.but (But.setRow _ _) (by omega)) (by omega)) (below_setRow HBA.out (by omega) _) ?_
       rfl
end Go.Proofs.YtlnjaemdelnceaaGreatDoor
