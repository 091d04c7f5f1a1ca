/- A part of the claim: see its last text. -/
import Derived.Test.YtcfogipaadhbeaaGreatDoorUK04
import Derived.Laws.Rows
import Derived.WalkKit
import Derived.Test.YtcfogipaadhbeaaGreatDoorUK09
import Derived.Test.YtcfogipaadhbeaaGreatDoorUK03
import Derived.Test.YtcfogipaadhbeaaGreatDoorUK22
import Derived.Laws.ResultCell
import Derived.Laws.CopyOwn
import Derived.Deep.RegionLaw
import Derived.Deep.CutRange

set_option maxRecDepth 100000
set_option maxHeartbeats 16000000
namespace Go.Proofs.YtcfogipaadhbeaaGreatDoor
open Go Go.RowKit Go.Proofs
def KeepX (bo : Nat) (w w' : World) : Prop := ∀ (b : Nat) (t : TypeId) (cs : Array Value), t ≠ 43 → b ≠ bo → Blk w b t cs → Blk w' b t cs
def AddR (bo B : Nat) (w : World) (L : List DV) (e : Ending) (w' : World) : Prop := ∃ v, e = .returned (.tuple #[]) ∧ OutD B w' v L ∧ Blk w' bo 22 #[v] ∧ But bo B w w' ∧ KeepX bo w w'
theorem add19 (bo B : Nat) (k : Int) (nm : ByteArray) (ra na : Option Addr) (rc nc : Nat) (refs : List ByteArray) (nums : List Int) (v : Value) (L : List DV) (W : World) (hO : OutD B W v L) (hb : Blk W bo 22 #[v]) (hlt : bo < B) (hBW : B ≤ W.heap.size)
    (hr : OwnS B W (.slice ra refs.length rc) refs) (hn : OwnI B W (.slice na nums.length nc) nums) (hz : nm.size ≤ 16384 ∧ ∀ r ∈ refs, r.size ≤ 16384) (hl : L.length ≤ 1000) :
    Calls Tryz.prog 36 #[.int .i64 k, .string nm, .slice ra refs.length rc, .slice na nums.length nc, .pointer (some ⟨bo, 0, none⟩)] W (AddR bo B W (L ++ [(⟨k, nm, refs, nums, 0, false⟩, .slice ra refs.length rc, .slice na nums.length nc)])) := by
 have HO := hide hO; have HB := hide hb; have HR := hide hr; have HN := hide hn; have HZ := hide hz; have HL := hide hl
 have HLT := hide hlt; have HBW := hide hBW
 have c0 : W.cell? ⟨bo, 0, none⟩ = some v := hb.cell 0
 have ml := hb.lt
 clear hO hb hr hn hz hl hBW hlt
 go_enter Tryz.func36, Tryz.ntmps36
 go_wp2_with (at_builtin
              refine append_decls rfl _ _ rfl B v L rfl (World.ownsRow.alloc HO.out.1 _) _ _ 1 [(⟨k, nm, refs, nums, 0, false⟩, .slice ra refs.length rc, .slice na nums.length nc)] rfl (newD W ⟨k, nm, refs, nums, 0, false⟩ ra na rc nc rfl) (by intro y hy; rw [List.mem_singleton.1 hy]; exact ⟨rfl, rfl⟩) (by have := HL.out; simp; omega) (by have := HBW.out; simp; omega) ?_
              intro v3 x3 hO3 hg3 _
              have ho3 := OutD.pushed (bp := bo) HO.out HR.out HN.out (Nat.le_refl _) HZ.out hO3 hg3 HLT.out
              have hb3 := (HB.out.alloc (.cells #[.int .i64 k, .string nm, .slice ra refs.length rc, .slice na nums.length nc, .int .i64 0, .bool false] 43)).grown hg3 (fun e => by have := (World.ownsRow.lt HO.out.1 _ e.symm).1; have := HLT.out; omega)
              have HO3 := hide ho3
              have HB3 := hide hb3
              have HBU := hide ((But.ofBelow (g := bo) (((Below.refl B W).alloc HBW.out (.cells #[.int .i64 k, .string nm, .slice ra refs.length rc, .slice na nums.length nc, .int .i64 0, .bool false] 43)))).trans (But.ofGrown hg3 (by have := HBW.out; simp; omega) fun k hk => (World.ownsRow.lt HO.out.1 _ hk).1))
              have HKX := hide (show KeepX bo W _ from fun b t cs ht _ hB => (hB.alloc (.cells #[.int .i64 k, .string nm, .slice ra refs.length rc, .slice na nums.length nc, .int .i64 0, .bool false] 43)).grown hg3 fun e => by
               rcases HO.out.1.2 with ⟨e0, _⟩ | ⟨g2, cap, cur, e0, _, hh, _⟩
               · rw [e0] at e; cases e
               · rw [e0] at e
                 obtain rfl : b = g2 := Option.some.inj e
                 have := hB.symm.trans hh
                 simp at this
                 exact ht this.2)
              have x0 := hb3.cell 0
              have xf := hb3.frozen 0
              have xl := hb3.lt
              simp at x0
              obtain ⟨A3, c3, hv3, _⟩ := ho3.form
              obtain ⟨n3, hn3⟩ : ∃ n3, n3 = (L ++ [((⟨k, nm, refs, nums, 0, false⟩, .slice ra refs.length rc, .slice na nums.length nc) : DV)]).length := ⟨_, rfl⟩
              rw [← hn3] at hv3
              clear hO3 hg3 ho3 hb3 hn3
              subst hv3)
 go_end0
 exact ⟨_, rfl, HO3.out.but (But.set_ _ _ _) HLT.out, HB3.out.set_ 0 _, HBU.out.trans (But.set_ _ _ _), fun b t cs ht hb hB => (HKX.out b t cs ht hb hB).far (by simpa using hb) _⟩
theorem blk_new (w : World) (t : TypeId) (cs : Array Value) {g : Nat} (h : g = w.heap.size) : Blk (w.alloc (.cells cs t)) g t cs := by subst h; exact Blk.new w t cs
def zeroDc : Array Value := #[.int .i64 0, .string ⟨#[]⟩, .slice none 0 0, .slice none 0 0, .int .i64 0, .bool false]
def cellsRD (x : RuleM) (v nv : Value) : Array Value := #[.int .i64 (10 + x.kind), .string ⟨#[]⟩, v, nv, .int .i64 x.by_, .bool x.always]
structure RD (w wr : World) (h : MH) (m : Mod) (x : RuleM) (cr : Array Value) (v nv : Value) (l : List ByteArray) : Prop where
 mw : MW w w.heap.size wr h m
 br : Blk wr (w.heap.size + 1) 62 cr
 bz : Blk wr (w.heap.size + 1 + 1) 43 zeroDc
 bd : Blk wr (w.heap.size + 1 + 1 + 1) 43 (cellsRD x v nv)
 bi : Blk wr (w.heap.size + 1 + 1 + 1 + 1) 3 #[.int .i64 x.item, .int .i64 x.other]
 own : OwnS (w.heap.size + 1 + 1 + 1 + 1 + 1) wr v l
section
variable {w wr w2 : World} {h : MH} {m : Mod} {x : RuleM} {cr : Array Value} {v nv v3 : Value} {l l3 : List ByteArray}
theorem RD.drew (d : RD w wr h m x cr v nv l) : RD w wr.drew h m x cr v nv l := ⟨d.mw.drew, d.br, d.bz, d.bd, d.bi, d.own⟩
theorem RD.grow (d : RD w wr h m x cr v nv l) (hb : Below wr.heap.size wr w2) : RD w w2 h m x cr v nv l :=
 ⟨d.mw.grow hb, d.br.below hb d.br.lt, d.bz.below hb d.bz.lt, d.bd.below hb d.bd.lt, d.bi.below hb d.bi.lt, d.own.below hb⟩
theorem RD.put (d : RD w wr h m x cr v nv l) (hO : OwnS (w.heap.size + 1 + 1 + 1 + 1 + 1) w2 v3 l3) (hg : wr.grownBy w2 v.ownBlock) : RD w (w2.setCell ⟨w.heap.size + 1 + 1 + 1, 2, none⟩ v3) h m x cr v3 nv l3 := by
 have hlo : ∀ k, v.ownBlock = some k → w.heap.size + 1 + 1 + 1 + 1 + 1 ≤ k := fun k hk => (d.own.lt k hk).1
 have m2 : MW w w.heap.size w2 h m := ⟨d.mw.b.grown hg d.mw.b.size fun k hk => by have := hlo k hk; omega, d.mw.blk.grown hg fun e => by have := hlo _ e.symm; omega⟩
 have hbut : But (w.heap.size + 1 + 1 + 1) w2.heap.size w2 (w2.setCell ⟨w.heap.size + 1 + 1 + 1, 2, none⟩ v3) := But.set_ _ _ _
 refine ⟨⟨m2.b.trans ((hbut.below (by have := (d.bd.grown hg fun e => by have := hlo _ e.symm; omega).lt; omega)).mono (by omega)), m2.blk.far (by simp; omega) _⟩, (d.br.grown hg fun e => by have := hlo _ e.symm; omega).far (by simp) _, (d.bz.grown hg fun e => by have := hlo _ e.symm; omega).far (by simp) _, ?_, (d.bi.grown hg fun e => by have := hlo _ e.symm; omega).far (by simp) _, hO.but hbut (by omega)⟩
 have := (d.bd.grown hg fun e => by have := hlo _ e.symm; omega).set_ 2 v3
 exact this
theorem RD.cell2 (d : RD w wr h m x cr v nv l) (hg : wr.grownBy w2 v.ownBlock) : w2.cell? ⟨w.heap.size + 1 + 1 + 1, 2, none⟩ = some v ∧ w.heap.size + 1 + 1 + 1 < w2.heap.size ∧ w2.frozen? ⟨w.heap.size + 1 + 1 + 1, 2, none⟩ = false := by
 have hb := d.bd.grown hg fun e => by have := (d.own.lt _ e.symm).1; omega
 exact ⟨hb.cell 2, hb.lt, hb.frozen 2⟩
theorem RD.lt (d : RD w wr h m x cr v nv l) : w.heap.size + 1 + 1 + 1 + 1 < wr.heap.size := d.bi.lt
end
def RuleDR (m : Mod) (x : RuleM) (w : World) (e : Ending) (w' : World) : Prop := ∃ v nv, e = .returned (.agg (cellsRD x v nv)) ∧ OwnS w.heap.size w' v (itNs m [x.item, x.other] ++ x.machines.map (mchN m)) ∧ OwnI w.heap.size w' nv (numsR x) ∧ Below w.heap.size w w'
theorem OwnI.lower {w : World} {B B' : Nat} {v : Value} {l : List Int} (h : OwnI B' w v l) (hB : B ≤ B') : OwnI B w v l := by
 refine ⟨h.1, ?_⟩
 rcases h.2 with h0 | ⟨g, cap, cur, e1, e2, h3⟩
 · exact .inl h0
 · exact .inr ⟨g, cap, cur, e1, Nat.le_trans hB e2, h3⟩
theorem But.setRow {g B : Nat} (w : World) (cs : Array Value) : But g B w (w.setRow g cs) := ⟨rfl, rfl, rfl, by simp, fun k _ hn => setRow_other w g k cs hn⟩
theorem sizeDc : (Tryz.prog.info? 43).map (·.size) = some 6 := by kernel_rfl
theorem cellsRD_one (x : RuleM) (A : Option Addr) (n c : Nat) (B : Option Addr) (k d : Nat) : (cellsRD x (.slice A n c) (.slice B k d)).all (·.oneCell') = true := by simp [cellsRD, Value.oneCell']
theorem numsR_is (x : RuleM) {q : Bool} (h : q = decide (x.kind ∈ ([1, 2, 5, 6] : List Int))) : numsR x = bif q then [x.n] else [] := by
 subst h
 unfold numsR
 by_cases hk : x.kind ∈ ([1, 2, 5, 6] : List Int)
 · rw [if_pos hk, decide_eq_true hk]; rfl
 · rw [if_neg hk, decide_eq_false hk]; rfl
theorem rdl_end {w W : World} {m : Mod} {x : RuleM} {v nv : Value} {T : Array Value} (b0 : Blk W (w.heap.size + 1 + 1) 43 (cellsRD x v nv)) (hv : OwnS w.heap.size W v (itNs m [x.item, x.other] ++ x.machines.map (mchN m))) (hn : OwnI w.heap.size W nv (numsR x)) (bb : Below w.heap.size w W) (h4 : T.getD 4 undef = .pointer (some ⟨w.heap.size + 1 + 1, 0, none⟩)) :
    bodyPost Tryz.prog Tryz.f38 (RuleDR m x w) Exit.ret { tmps := T, defers := [] } W :=
 bodyPost_ret (v := .agg (cellsRD x v nv)) (w := W) (results_cell_row (P := Tryz.prog) rfl T W (w.heap.size + 1 + 1) 43 _ (0, 0) _ h4 b0 Tryz.underlying43 rfl (by kernel_rfl)) rfl ⟨v, nv, rfl, hv, hn, bb⟩
theorem ruleDecl19 (h : MH) (m : Mod) (x : RuleM) (A : Option Addr) (c : Nat) (w : World) (d : MD w w.heap.size h m) (hl : Ints w w.heap.size A x.machines) (hn : ∀ n ∈ x.machines, 1 ≤ n ∧ n ≤ (m.mT.length : Int)) (hs : x.machines.length ≤ 1000) (hk0 : 0 ≤ x.kind) (hk1 : x.kind ≤ 100) (hi : x.item ≤ (m.iT.length : Int)) (ho : x.other ≤ (m.iT.length : Int)) :
    Calls Tryz.prog 38 #[.agg #[.slice h.s m.sT.length h.sc, .slice h.f m.fT.length h.fc, .slice h.r m.rT.length h.rc, .slice h.m m.mT.length h.mc, .slice h.l m.lT.length h.lc, .slice h.i m.iT.length h.ic, .int .i64 m.dT, .int .i64 m.oT, .int .i64 m.vT, .int .i64 m.aT, .slice h.u m.uT.length h.uc], .agg #[.int .i64 x.kind, .int .i64 x.item, .int .i64 x.other, .int .i64 x.n, .int .i64 x.by_, .bool x.always, .slice A x.machines.length c]] w (RuleDR m x w) := by
 have hR0 : RD w (((((w.alloc (.cells #[.slice h.s m.sT.length h.sc, .slice h.f m.fT.length h.fc, .slice h.r m.rT.length h.rc, .slice h.m m.mT.length h.mc, .slice h.l m.lT.length h.lc, .slice h.i m.iT.length h.ic, .int .i64 m.dT, .int .i64 m.oT, .int .i64 m.vT, .int .i64 m.aT, .slice h.u m.uT.length h.uc] 32)).alloc (.cells #[.int .i64 x.kind, .int .i64 x.item, .int .i64 x.other, .int .i64 x.n, .int .i64 x.by_, .bool x.always, .slice A x.machines.length c] 62)).alloc (.cells zeroDc 43)).alloc (.cells (cellsRD x (.slice none 0 0) (.slice none 0 0)) 43)).alloc (.cells #[.int .i64 x.item, .int .i64 x.other] 3)) h m x #[.int .i64 x.kind, .int .i64 x.item, .int .i64 x.other, .int .i64 x.n, .int .i64 x.by_, .bool x.always, .slice A x.machines.length c] (.slice none 0 0) (.slice none 0 0) (itNs m ([x.item, x.other].take 0)) :=
  ⟨(((((MW.start w h m).grow ((Below.refl _ _).alloc (Nat.le_refl _) _)).grow ((Below.refl _ _).alloc (Nat.le_refl _) _)).grow ((Below.refl _ _).alloc (Nat.le_refl _) _)).grow ((Below.refl _ _).alloc (Nat.le_refl _) _)),
    ((((blk_new _ _ _ (by simp)).alloc _).alloc _).alloc _), (((blk_new _ _ _ (by simp)).alloc _).alloc _), ((blk_new _ _ _ (by simp)).alloc _), blk_new _ _ _ (by simp), OwnS.nil_ _ _⟩
 have HR0 := hide hR0
 have D := hide d; have HL := hide hl; have HN := hide hn; have HI := hide hi; have HO := hide ho
 have hB2 : ∀ b : Bool, b = false ∨ b = true := fun b => by cases b <;> simp
 obtain ⟨q, hq⟩ : ∃ q, q = decide (x.kind ∈ ([1, 2, 5, 6] : List Int)) := ⟨_, rfl⟩
 have HC := hide fun (X : World) (b : Nat) (hb : b = X.heap.size) => (show Calls Tryz.prog 85 #[.slice (some ⟨b, 0, none⟩) 4 4, .int .i64 x.kind] (X.alloc (.cells #[.int .i64 1, .int .i64 2, .int .i64 5, .int .i64 6] 3)) fun e w' => e = .returned (.bool q) ∧ X.alloc (.cells #[.int .i64 1, .int .i64 2, .int .i64 5, .int .i64 6] 3) = w' from by
  rw [hq]
  exact contains_ints (some ⟨b, 0, none⟩) 4 [1, 2, 5, 6] x.kind (X.alloc (.cells #[.int .i64 1, .int .i64 2, .int .i64 5, .int .i64 6] 3)) (by decide) (by subst hb; exact (Ints.newRow X 3 [1, 2, 5, 6]).more (by simp)))
 have HNU := hide (numsR_is x hq)
 clear d hl hn hi ho hR0 hq
 go_enter Tryz.func38, Tryz.ntmps38
 go_wp2_with fail
 go_loopw [7, 22] (fun j i wr => ∃ k : Nat, k ≤ 2 ∧ i = .int .i64 k ∧ Hid (∃ v, RD w wr h m x #[.int .i64 x.kind, .int .i64 x.item, .int .i64 x.other, .int .i64 x.n, .int .i64 x.by_, .bool x.always, .slice A x.machines.length c] v (.slice none 0 0) (itNs m ([x.item, x.other].take k)))) (fun _ i _ => 2 - (intOf i).toNat)
 case atStart => exact ⟨0, by omega, rfl, _, HR0.out⟩
 case round =>
  clear HR0
  obtain ⟨k, hk, rfl, hR⟩ := hrel
  obtain ⟨v, r⟩ := hR.out
  clear hR
  have HR := hide r
  obtain ⟨a0, a1, a2, a3, a4, a5, a6, a7, a8, a9, a10⟩ := MB.cells r.mw.blk
  have d2 : wr.cell? ⟨w.heap.size + 1 + 1 + 1, 2, none⟩ = some v := r.bd.cell 2
  have hL1 := r.mw.lt
  have hL2 := r.lt
  have hL3 := r.bd.lt
  clear a0 a1 a2 a3 a4 a6 a7 a8 a9 a10 r
  by_cases hlt : k < 2
  · obtain ⟨nn, hnn⟩ : ∃ nn, nn = [x.item, x.other][k]'(by simpa using hlt) := ⟨_, rfl⟩
    have x0 : wr.cell? ⟨w.heap.size + 1 + 1 + 1 + 1, k, none⟩ = some (.int .i64 nn) := by
     rw [HR.out.bi.cell k, hnn]
     rcases k with _ | _ | k
     · rfl
     · rfl
     · omega
    have hni : nn ≤ (m.iT.length : Int) := by
     rw [hnn]
     rcases k with _ | _ | k
     · exact HI.out
     · exact HO.out
     · omega
    have HE := hide hnn
    have hkI : (k : Int) < 2 := by omega
    clear hnn
    rcases hB2 (decide (0 < nn)) with g | g
    · have HR2 : Hid (RD w wr h m x #[.int .i64 x.kind, .int .i64 x.item, .int .i64 x.other, .int .i64 x.n, .int .i64 x.by_, .bool x.always, .slice A x.machines.length c] v (.slice none 0 0) (itNs m ([x.item, x.other].take (k + 1)))) := hide (by
        rw [← itNs_no m [x.item, x.other] (by simpa using hlt) (by rw [← HE.out]; simpa using g)]
        exact HR.out)
      clear a5 d2
      go_wp2_with fail
      go_roundw
      case rel => exact ⟨k + 1, by omega, by go_num, _, HR2.out⟩
      case measure => simp [intOf]; omega
    · have hpos : 0 < nn := of_decide_eq_true g
      obtain ⟨q, hq⟩ : ∃ q : Nat, nn = (q : Int) + 1 := ⟨(nn - 1).toNat, by omega⟩
      have hqm : q < m.iT.length := by omega
      have HE2 := hide (itNs_yes m [x.item, x.other] (by simpa using hlt) (HE.out.symm.trans hq) hqm)
      obtain ⟨b, off, A2, c2, hA2, hb2, y0, _⟩ := (HR.out.mw.md D.out).dI.item hqm
      have ml := D.out.il
      rw [hA2] at a5
      have hqI : (q : Int) < (m.iT.length : Int) := by omega
      have hwq : IntKind.i64.wrap (q : Int) = q := IntWalk.i64_in _ (by omega)
      subst hq
      obtain ⟨nl, hnl⟩ : ∃ nl, nl = itNs m ([x.item, x.other].take k) := ⟨_, rfl⟩
      have HNL := hide (show nl.length ≤ 2 by rw [hnl]; have := itNs_len m ([x.item, x.other].take k); simp at this; omega)
      rw [← hnl] at HR HE2
      clear hA2 hpos hni hnl
      go_wp2_with fail
      go_region_law
       ((first
         | (refine step_append_strs rfl _ _ rfl (w.heap.size + 1 + 1 + 1 + 1 + 1) v nl rfl (HR.out.drew.own.alloc _) _ _ 1 [m.iT[q].name] rfl (Strs.newRow2 _ _ _ rfl) (by have := HNL.out; simp; omega) (by simp; omega) ?_
            intro v3 x3 hO3 hg3 hv3
            have hdr := HR.out.drew.grow ((Below.refl _ _).alloc (Nat.le_refl _) (.cells #[.string m.iT[q].name] 9))
            have k3 := hdr.cell2 hg3
            have HR3 := hide (hdr.put hO3 hg3)
            rw [HE2.out] at HR3
            clear hg3 hv3 hdr
            have hfm := hO3.form3
            obtain ⟨A3, c3, hvs, _, _⟩ := hfm
            obtain ⟨n3, hn3⟩ : ∃ n3, n3 = (nl ++ [m.iT[q].name]).length := ⟨_, rfl⟩
            rw [← hn3] at hvs
            clear hn3 hO3
            subst hvs)))
      all_goals
       go_wp2_with fail
       go_roundw
       case rel => exact ⟨k + 1, by omega, by go_num, _, HR3.out⟩
       case measure => simp [intOf]; omega
  · obtain rfl : k = 2 := by omega
    rw [show [x.item, x.other].take 2 = [x.item, x.other] from rfl] at HR
    obtain ⟨nl, hnl⟩ : ∃ nl, nl = itNs m [x.item, x.other] := ⟨_, rfl⟩
    have HNL := hide (show nl.length ≤ 2 by rw [hnl]; exact itNs_len m [x.item, x.other])
    have HV := hide hnl
    rw [← hnl] at HR
    clear hnl hlt hk a5
    obtain ⟨nm, hnm⟩ : ∃ nm, nm = x.machines.map (mchN m) := ⟨_, rfl⟩
    have HNM := hide (show nm.length ≤ 1000 by rw [hnm, List.length_map]; exact hs)
    have hdr0 := HR.out.drew
    have hm0 := machines19 h m A c x.machines wr.drew (hdr0.mw.md D.out) (HL.out.grow hdr0.mw.b) HN.out hs
    unfold MachN at hm0
    rw [← hnm] at hm0
    have HM := hide hm0
    have HNV := hide hnm
    obtain ⟨a0, a1, a2, a3, a4, a5, a6, a7, a8, a9, a10⟩ := MB.cells HR.out.mw.blk
    have b6 : wr.cell? ⟨w.heap.size + 1, 6, none⟩ = some (.slice A x.machines.length c) := HR.out.br.cell 6
    have hL4 := HR.out.br.lt
    clear hdr0 hm0 hnm
    go_upto_region 8 with (fail)
    go_cut [47] from 41 to 49 (fun u wx => ∃ A3 n3 c3, u = .slice A3 n3 c3 ∧ RD w wx h m x #[.int .i64 x.kind, .int .i64 x.item, .int .i64 x.other, .int .i64 x.n, .int .i64 x.by_, .bool x.always, .slice A x.machines.length c] (.slice A3 n3 c3) (.slice none 0 0) (nl ++ nm))
    case first =>
     go_region_law
      ((first
        | (go_simp; go_at_call 37; refine HM.out.mono ?_; rintro e2 y ⟨v2, rfl, hO2, hb2⟩
           have HY := hide (HR.out.drew.grow hb2)
           have dy : y.cell? ⟨w.heap.size + 1 + 1 + 1, 2, none⟩ = some v := HY.out.bd.cell 2
           have yl := HY.out.bd.lt
           have yf := HY.out.bd.frozen 2
           obtain ⟨A2, c2, hv2, _, hS2⟩ := hO2.form3
           have HS2 := hide hS2
           obtain ⟨n2, hn2⟩ : ∃ n2, n2 = nm.length := ⟨_, rfl⟩
           rw [← hn2] at hv2
           have HN2 := hide hn2
           subst hv2
           clear hO2 hb2 hS2 hn2
           dsimp only)
        | (refine step_append_strs rfl _ _ rfl (w.heap.size + 1 + 1 + 1 + 1 + 1) v nl rfl HY.out.own _ A2 c2 nm (by rw [← HN2.out]; rfl) HS2.out (by have := HNL.out; have := HNM.out; omega) HY.out.lt ?_
           intro v3 x3 hO3 hg3 hv3
           have k3 := HY.out.cell2 hg3
           have HR3 := hide (HY.out.put hO3 hg3)
           clear hg3 hv3
           have hfm := hO3.form3
           obtain ⟨A3, c3, hvs, _, _⟩ := hfm
           obtain ⟨n3, hn3⟩ : ∃ n3, n3 = (nl ++ nm).length := ⟨_, rfl⟩
           rw [← hn3] at hvs
           clear hn3 hO3
           subst hvs)))
     all_goals
      go_wp2_with fail
      go_meet
      exact ⟨_, _, _, rfl, HR3.out⟩
    case rest =>
     obtain ⟨A3, n3, c3, rfl, hr3⟩ := hcut
     have HR3 := hide hr3
     clear hr3 a0 a1 a2 a3 a4 a5 a6 a7 a8 a9 a10 d2 hL1 hL2 hL3 hL4 b6
     obtain ⟨w8, hw8⟩ : ∃ w8, w8 = wc := ⟨_, rfl⟩
     rw [← hw8] at HR3 ⊢
     have e0 : w8.cell? ⟨w.heap.size + 1 + 1 + 1, 0, none⟩ = some (.int .i64 (10 + x.kind)) := HR3.out.bd.cell 0
     have e1 : w8.cell? ⟨w.heap.size + 1 + 1 + 1, 1, none⟩ = some (.string ⟨#[]⟩) := HR3.out.bd.cell 1
     have e2 : w8.cell? ⟨w.heap.size + 1 + 1 + 1, 2, none⟩ = some (.slice A3 n3 c3) := HR3.out.bd.cell 2
     have e3 : w8.cell? ⟨w.heap.size + 1 + 1 + 1, 3, none⟩ = some (.slice none 0 0) := HR3.out.bd.cell 3
     have e4 : w8.cell? ⟨w.heap.size + 1 + 1 + 1, 4, none⟩ = some (.int .i64 x.by_) := HR3.out.bd.cell 4
     have e5 : w8.cell? ⟨w.heap.size + 1 + 1 + 1, 5, none⟩ = some (.bool x.always) := HR3.out.bd.cell 5
     have r0 : w8.cell? ⟨w.heap.size + 1, 0, none⟩ = some (.int .i64 x.kind) := HR3.out.br.cell 0
     have r3 : w8.cell? ⟨w.heap.size + 1, 3, none⟩ = some (.int .i64 x.n) := HR3.out.br.cell 3
     have s1 := HR3.out.br.lt
     have s3 := HR3.out.bd.lt
     have s4 := HR3.out.lt
     have f3 := ((HR3.out.bd.alloc (.cells #[.int .i64 1, .int .i64 2, .int .i64 5, .int .i64 6] 3)).alloc (.cells #[.int .i64 x.n] 3)).frozen 3
     have HZ := hide HR3.out.bz
     have HS := hide HR3.out.own
     have HB8 := hide HR3.out.mw.b
     have HBD3 := hide HR3.out.bd
     have HS5 := hide (show w.heap.size + 1 + 1 + 1 + 1 + 1 ≤ w8.heap.size by omega)
     rw [HV.out, HNV.out] at HS
     clear hw8 HR3 s4 HR HM HNM HNL HV HNV
     rcases hB2 q with hq | hq
     · have HNQ := hide (show numsR x = [] by rw [HNU.out, hq]; rfl)
       subst hq
       clear f3
       go_wp2_with (first
        | (go_at_call 85; refine (HC.out _ _ (by simp)).mono ?_; rintro e w9 ⟨rfl, rfl⟩)
        | (refine wpList_store_row (o := ⟨none, .store 43 _ _, _, _, _, _⟩) rfl 43 _ _ rfl (w.heap.size + 1 + 1) (cellsRD x (.slice A3 n3 c3) (.slice none 0 0)) rfl rfl 43 zeroDc (HZ.out.alloc _) sizeDc rfl (cellsRD_one _ _ _ _ _ _ _) ?_))
       refine rdl_end (setRow_heap _ _ zeroDc _ _ _ (HZ.out.alloc _)) (OwnS.lower ((HS.out.alloc _).but (But.setRow _ _) (by omega)) (by omega)) (by rw [HNQ.out]; exact OwnI.nil_ _ _) (below_setRow (HB8.out.alloc HB8.out.size _) (by omega) _) ?_
       rfl
     · have HNQ := hide (show numsR x = [x.n] by rw [HNU.out, hq]; rfl)
       subst hq
       obtain ⟨wz, hwz⟩ : ∃ wz, wz = w8.setCell ⟨w.heap.size + 1 + 1 + 1, 3, none⟩ (.slice (some ⟨w8.heap.size + 1, 0, none⟩) 1 1) := ⟨_, rfl⟩
       obtain ⟨wa, hwa⟩ : ∃ wa, wa = (wz.alloc (.cells #[.int .i64 1, .int .i64 2, .int .i64 5, .int .i64 6] 3)).alloc (.cells #[.int .i64 x.n] 3) := ⟨_, rfl⟩
       have hbut : But (w.heap.size + 1 + 1 + 1) w8.heap.size w8 wz := by rw [hwz]; exact But.set_ _ _ _
       have hzs : wz.heap.size = w8.heap.size := by rw [hwz]; simp [World.setCell]
       have hle5 := HS5.out
       have HBD : Hid (Blk wa (w.heap.size + 1 + 1 + 1) 43 (cellsRD x (.slice A3 n3 c3) (.slice (some ⟨w8.heap.size + 1, 0, none⟩) 1 1))) := hide (by rw [hwa, hwz]; exact ((HBD3.out.set_ 3 (.slice (some ⟨w8.heap.size + 1, 0, none⟩) 1 1)).alloc _).alloc _)
       have HZA : Hid (Blk wa (w.heap.size + 1 + 1) 43 zeroDc) := hide (by rw [hwa]; exact ((hbut.blk HZ.out (by omega) (by omega)).alloc _).alloc _)
       have HSA := hide (show OwnS (w.heap.size + 1 + 1 + 1 + 1 + 1) wa _ _ by rw [hwa]; exact ((OwnS.but HS.out hbut (by omega)).alloc _).alloc _)
       have HIA : Hid (OwnI (w.heap.size + 1 + 1 + 1 + 1 + 1) wa (.slice (some ⟨w8.heap.size + 1, 0, none⟩) 1 1) [x.n]) := hide (by
        have := OwnI.new (B := w.heap.size + 1 + 1 + 1 + 1 + 1) (wz.alloc (.cells #[.int .i64 1, .int .i64 2, .int .i64 5, .int .i64 6] 3)) [x.n] (by simp; omega) (by simp [maxLen])
        rw [hwa]
        simpa [hzs] using this)
       have HBA : Hid (Below w.heap.size w wa) := hide (by
        rw [hwa]
        exact ((HB8.out.trans ((hbut.below (by omega)).mono (by omega))).alloc (by omega) _).alloc (by simp; omega) _)
       have HWA : Hid (wa = ((w8.setCell ⟨w.heap.size + 1 + 1 + 1, 3, none⟩ (.slice (some ⟨w8.heap.size + 1, 0, none⟩) 1 1)).alloc (.cells #[.int .i64 1, .int .i64 2, .int .i64 5, .int .i64 6] 3)).alloc (.cells #[.int .i64 x.n] 3)) := hide (by rw [hwa, hwz])
       clear hwa hwz hbut hzs hle5
       have c3' := ((HBD3.out.alloc (.cells #[.int .i64 1, .int .i64 2, .int .i64 5, .int .i64 6] 3)).alloc (.cells #[.int .i64 x.n] 3)).cell 3
       have s3' : w.heap.size + 1 + 1 + 1 < w8.heap.size + 1 := by omega
       simp [cellsRD] at c3'
       go_upto_region 11 with (first
        | (go_at_call 85; refine (HC.out _ _ (by simp)).mono ?_; rintro e w9 ⟨rfl, rfl⟩))
       rw [← HWA.out]
       clear e0 e1 e2 e3 e4 e5 r0 r3 f3 c3' s3'
       have e0 : wa.cell? ⟨w.heap.size + 1 + 1 + 1, 0, none⟩ = some (.int .i64 (10 + x.kind)) := HBD.out.cell 0
       have e1 : wa.cell? ⟨w.heap.size + 1 + 1 + 1, 1, none⟩ = some (.string ⟨#[]⟩) := HBD.out.cell 1
       have e2 : wa.cell? ⟨w.heap.size + 1 + 1 + 1, 2, none⟩ = some (.slice A3 n3 c3) := HBD.out.cell 2
       have e3 : wa.cell? ⟨w.heap.size + 1 + 1 + 1, 3, none⟩ = some (.slice (some ⟨w8.heap.size + 1, 0, none⟩) 1 1) := HBD.out.cell 3
       have e4 : wa.cell? ⟨w.heap.size + 1 + 1 + 1, 4, none⟩ = some (.int .i64 x.by_) := HBD.out.cell 4
       have e5 : wa.cell? ⟨w.heap.size + 1 + 1 + 1, 5, none⟩ = some (.bool x.always) := HBD.out.cell 5
       go_wp2_with (first
        | (refine wpList_store_row (o := ⟨none, .store 43 _ _, _, _, _, _⟩) rfl 43 _ _ rfl (w.heap.size + 1 + 1) (cellsRD x (.slice A3 n3 c3) (.slice (some ⟨w8.heap.size + 1, 0, none⟩) 1 1)) rfl rfl 43 zeroDc HZA.out sizeDc rfl (cellsRD_one _ _ _ _ _ _ _) ?_))
       refine rdl_end (setRow_heap _ _ zeroDc _ _ _ HZA.out) (OwnS.lower (HSA.out.but (But.setRow _ _) (by omega)) (by omega)) (by rw [HNQ.out]; exact OwnI.lower (HIA.out.but (But.setRow _ _) (by omega)) (by omega)) (below_setRow HBA.out (by omega) _) ?_
       rfl
structure DS (w wr : World) (h : MH) (m : Mod) (bo : Nat) (ds : List Decl) : Prop where
 mw : MW w w.heap.size wr h m
 lt : w.heap.size < bo
 out : ∃ v L, Blk wr bo 22 #[v] ∧ OutD (bo + 1) wr v L ∧ L.map (·.1) = ds
section
variable {w wr w2 : World} {h : MH} {m : Mod} {bo : Nat} {ds : List Decl}
theorem DS.size (d : DS w wr h m bo ds) : bo < wr.heap.size := by obtain ⟨v, L, hb, _⟩ := d.out; exact hb.lt
theorem DS.drew (d : DS w wr h m bo ds) : DS w wr.drew h m bo ds := ⟨d.mw.drew, d.lt, d.out⟩
theorem DS.grow (d : DS w wr h m bo ds) (hb : Below wr.heap.size wr w2) : DS w w2 h m bo ds := by
 obtain ⟨v, L, h1, h2, h3⟩ := d.out
 exact ⟨d.mw.grow hb, d.lt, v, L, h1.below hb h1.lt, h2.below hb, h3⟩
def AddQ (w wr : World) (h : MH) (m : Mod) (bo : Nat) (ds : List Decl) (e : Ending) (w' : World) : Prop := e = .returned (.tuple #[]) ∧ DS w w' h m bo ds ∧ But bo (bo + 1) wr w' ∧ KeepX bo wr w'
theorem DS.add (d : DS w wr h m bo ds) (k : Int) (nm : ByteArray) (ra na : Option Addr) (rc nc : Nat) (refs : List ByteArray) (nums : List Int)
    (hr : OwnS (bo + 1) wr (.slice ra refs.length rc) refs) (hn : OwnI (bo + 1) wr (.slice na nums.length nc) nums) (hz : nm.size ≤ 16384 ∧ ∀ r ∈ refs, r.size ≤ 16384) (hl : ds.length ≤ 1000) :
    Calls Tryz.prog 36 #[.int .i64 k, .string nm, .slice ra refs.length rc, .slice na nums.length nc, .pointer (some ⟨bo, 0, none⟩)] wr (AddQ w wr h m bo (ds ++ [⟨k, nm, refs, nums, 0, false⟩])) := by
 obtain ⟨v, L, h1, h2, h3⟩ := d.out
 refine (add19 bo (bo + 1) k nm ra na rc nc refs nums v L wr h2 h1 (Nat.lt_succ_self _) h1.lt hr hn hz (by rw [← h3] at hl; simpa using hl)).mono ?_
 rintro e w' ⟨v', rfl, q1, q2, q3, q4⟩
 have hlt := d.lt
 exact ⟨rfl, ⟨⟨d.mw.b.trans ((q3.below (by omega)).mono (by omega)), q3.blk d.mw.blk (by omega) (by omega)⟩, d.lt, v', _, q2, q1, by simp [h3]⟩, q3, q4⟩
theorem DS.addN (d : DS w wr h m bo ds) (k : Int) (nm : ByteArray) (refs : List ByteArray) (hs : refs.length ≤ 16) (hz : nm.size ≤ 16384 ∧ ∀ r ∈ refs, r.size ≤ 16384) (hl : ds.length ≤ 1000) :
    Calls Tryz.prog 36 #[.int .i64 k, .string nm, .slice (some ⟨wr.heap.size, 0, none⟩) refs.length refs.length, .slice none 0 0, .pointer (some ⟨bo, 0, none⟩)] (wr.alloc (.cells (refs.map Value.string).toArray 9)).drew (AddQ w (wr.alloc (.cells (refs.map Value.string).toArray 9)).drew h m bo (ds ++ [⟨k, nm, refs, [], 0, false⟩])) :=
 (d.grow ((Below.refl _ _).alloc (Nat.le_refl _) _)).drew.add k nm _ none _ 0 refs [] (OwnS.new wr refs d.size (by unfold maxLen; omega)).drew (OwnI.nil_ _ _) hz hl
theorem DS.addNM (d : DS w wr h m bo ds) (k : Int) (nm : ByteArray) (refs : List ByteArray) (nums : List Int) (hs : refs.length ≤ 16 ∧ nums.length ≤ 16) (hz : nm.size ≤ 16384 ∧ ∀ r ∈ refs, r.size ≤ 16384) (hl : ds.length ≤ 1000) :
    Calls Tryz.prog 36 #[.int .i64 k, .string nm, .slice (some ⟨wr.heap.size, 0, none⟩) refs.length refs.length, .slice (some ⟨wr.heap.size + 1, 0, none⟩) nums.length nums.length, .pointer (some ⟨bo, 0, none⟩)] ((wr.alloc (.cells (refs.map Value.string).toArray 9)).alloc (.cells (nums.map (Value.int .i64)).toArray 3)).drew (AddQ w ((wr.alloc (.cells (refs.map Value.string).toArray 9)).alloc (.cells (nums.map (Value.int .i64)).toArray 3)).drew h m bo (ds ++ [⟨k, nm, refs, nums, 0, false⟩])) := by
 have hI := OwnI.new (B := bo + 1) (wr.alloc (.cells (refs.map Value.string).toArray 9)) nums (by have := d.size; simp; omega) (by unfold maxLen; omega)
 rw [show (wr.alloc (.cells (refs.map Value.string).toArray 9)).heap.size = wr.heap.size + 1 by simp] at hI
 exact ((d.grow ((Below.refl _ _).alloc (Nat.le_refl _) _)).grow ((Below.refl _ _).alloc (Nat.le_refl _) _)).drew.add k nm _ _ _ _ refs nums ((OwnS.new wr refs d.size (by unfold maxLen; omega)).alloc _).drew hI hz hl
theorem DS.addMN (d : DS w wr h m bo ds) (k : Int) (nm : ByteArray) (refs : List ByteArray) (nums : List Int) (hs : refs.length ≤ 16 ∧ nums.length ≤ 16) (hz : nm.size ≤ 16384 ∧ ∀ r ∈ refs, r.size ≤ 16384) (hl : ds.length ≤ 1000) :
    Calls Tryz.prog 36 #[.int .i64 k, .string nm, .slice (some ⟨wr.heap.size + 1, 0, none⟩) refs.length refs.length, .slice (some ⟨wr.heap.size, 0, none⟩) nums.length nums.length, .pointer (some ⟨bo, 0, none⟩)] ((wr.alloc (.cells (nums.map (Value.int .i64)).toArray 3)).alloc (.cells (refs.map Value.string).toArray 9)).drew (AddQ w ((wr.alloc (.cells (nums.map (Value.int .i64)).toArray 3)).alloc (.cells (refs.map Value.string).toArray 9)).drew h m bo (ds ++ [⟨k, nm, refs, nums, 0, false⟩])) := by
 have hS := OwnS.new (B := bo + 1) (wr.alloc (.cells (nums.map (Value.int .i64)).toArray 3)) refs (by have := d.size; simp; omega) (by unfold maxLen; omega)
 rw [show (wr.alloc (.cells (nums.map (Value.int .i64)).toArray 3)).heap.size = wr.heap.size + 1 by simp] at hS
 exact ((d.grow ((Below.refl _ _).alloc (Nat.le_refl _) _)).grow ((Below.refl _ _).alloc (Nat.le_refl _) _)).drew.add k nm _ _ _ _ refs nums hS.drew ((OwnI.new wr nums d.size (by unfold maxLen; omega)).alloc _) hz hl
theorem DS.addL (d : DS w wr h m bo ds) (k : Int) (nm : ByteArray) (ra na : Option Addr) (n1 n2 rc nc : Nat) (refs : List ByteArray) (nums : List Int) (e1 : n1 = refs.length) (e2 : n2 = nums.length)
    (hr : OwnS (bo + 1) wr (.slice ra n1 rc) refs) (hn : OwnI (bo + 1) wr (.slice na n2 nc) nums) (hz : nm.size ≤ 16384 ∧ ∀ r ∈ refs, r.size ≤ 16384) (hl : ds.length ≤ 1000) :
    Calls Tryz.prog 36 #[.int .i64 k, .string nm, .slice ra n1 rc, .slice na n2 nc, .pointer (some ⟨bo, 0, none⟩)] wr (AddQ w wr h m bo (ds ++ [⟨k, nm, refs, nums, 0, false⟩])) := by
 subst e1 e2
 exact d.add k nm ra na rc nc refs nums hr hn hz hl
theorem ds_push {x x3 : World} {v v3 : Value} {L : List DV} {dd : Decl} {ra na : Option Addr} {rc nc : Nat} {o : Obj} (hm : MW w w.heap.size x h m) (hlt : w.heap.size < bo) (hb : Blk x bo 22 #[v]) (hO : OutD (bo + 1) x v L)
    (hr : OwnS (bo + 1) x (.slice ra dd.refs.length rc) dd.refs) (hn : OwnI (bo + 1) x (.slice na dd.nums.length nc) dd.nums) (hz : dd.name.size ≤ 16384 ∧ ∀ r ∈ dd.refs, r.size ≤ 16384)
    (h3 : x3.ownsRow (bo + 1) 43 6 v3 (L ++ [((dd, .slice ra dd.refs.length rc, .slice na dd.nums.length nc) : DV)]).length ((L ++ [((dd, .slice ra dd.refs.length rc, .slice na dd.nums.length nc) : DV)]).flatMap cellsD)) (hg : (x.alloc o).grownBy x3 v.ownBlock) :
    DS w (x3.setCell ⟨bo, 0, none⟩ v3) h m bo (L.map (·.1) ++ [dd]) ∧ x3.cell? ⟨bo, 0, none⟩ = some v ∧ bo < x3.heap.size ∧ x3.frozen? ⟨bo, 0, none⟩ = false ∧ ∃ A3 n3 c3, v3 = .slice A3 n3 c3 := by
 have hbl := hb.lt
 have ho3 := OutD.pushed (bp := bo) hO hr hn (Nat.le_refl _) hz h3 hg (Nat.lt_succ_self _)
 have hb3 := (hb.alloc o).grown hg (fun e => by have := (World.ownsRow.lt hO.1 _ e.symm).1; omega)
 have q3 := ((But.ofBelow (g := bo) ((Below.refl (bo + 1) x).alloc hbl o)).trans (But.ofGrown hg (by simp; omega) fun k hk => (World.ownsRow.lt hO.1 _ hk).1)).trans (But.set_ x3 0 v3)
 exact ⟨⟨⟨hm.b.trans ((q3.below (by omega)).mono (by omega)), q3.blk hm.blk (by omega) (by omega)⟩, hlt, v3, _, hb3.set_ 0 _, ho3.but (But.set_ _ _ _) (Nat.lt_succ_self _), by simp⟩, hb3.cell 0, hb3.lt, hb3.frozen 0, by obtain ⟨A3, c3, hv, _⟩ := ho3.form; exact ⟨A3, _, c3, hv⟩⟩
end
theorem below_1 (X : World) (a : Obj) : Below X.heap.size X (X.alloc a).drew := ((Below.refl _ _).alloc (Nat.le_refl _) _).drew
theorem below_2 (X : World) (a b : Obj) : Below X.heap.size X ((X.alloc a).alloc b).drew := (((Below.refl _ _).alloc (Nat.le_refl _) _).alloc (by simp) _).drew
theorem OutD.lower {w : World} {B B' : Nat} {v : Value} {L : List DV} (h : OutD B' w v L) (hB : B ≤ B') : OutD B w v L :=
 ⟨own_lowerD h.1 hB, fun x hx => ⟨OwnS.lower (h.2 x hx).1 hB, OwnI.lower (h.2 x hx).2.1 hB, (h.2 x hx).2.2⟩⟩
theorem cut4 (k t : Nat) (T : TypeId) : 4 ≤ (Question.appendCap 4 k T).cut t ∧ (Question.appendCap 4 k T).cut t ≤ maxLen := by
 have h := Nat.mod_lt t (show 2 ^ 63 - 4 > 0 by decide)
 have e : (Question.appendCap 4 k T).cut t = 4 + t % (2 ^ 63 - 4) := rfl
 rw [e]
 unfold maxLen
 omega
theorem own4 (W : World) (B : Nat) (a b c d : Int) (cap : Nat) (h4 : 4 ≤ cap) (hm : cap ≤ maxLen) (hB : B ≤ W.heap.size) :
    OwnI B (W.alloc (.cells (#[.int .i64 a] ++ (#[.int .i64 b, .int .i64 c, .int .i64 d] ++ Builtin.zeroCells #[Value.int .i64 0] (cap - 4))) 3)) (.slice (some ⟨W.heap.size, 0, none⟩) 4 cap) [a, b, c, d] := by
 refine ⟨rfl, .inr ⟨W.heap.size, cap, _, rfl, hB, heap_alloc_new W _, h4, hm, ?_, ?_⟩⟩
 · simp [Builtin.zeroCells]; omega
 · simp
end Go.Proofs.YtcfogipaadhbeaaGreatDoor
