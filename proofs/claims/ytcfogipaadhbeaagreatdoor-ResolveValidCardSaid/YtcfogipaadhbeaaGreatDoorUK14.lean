/- A part of the claim: see its last text. -/
import Derived.Test.YtcfogipaadhbeaaGreatDoorUK11
import Derived.Test.YtcfogipaadhbeaaGreatDoorUK05
import Derived.Deep.CutRange
import Derived.Test.YtcfogipaadhbeaaGreatDoorUK07
import Derived.Test.YtcfogipaadhbeaaGreatDoorUK12
import Derived.Test.YtcfogipaadhbeaaGreatDoorUK13

set_option maxRecDepth 100000
set_option maxHeartbeats 16000000
namespace Go.Proofs.YtcfogipaadhbeaaGreatDoor
open Go Go.RowKit Go.Proofs
theorem ret_rule {fn : Func} {p : Tmp} (hr : fn.results = #[.cell p 62]) (tmps : Array Value) (w : World) (g : Nat) (cs : Array Value) (hp : tmps.getD p undef = .pointer (some ⟨g, 0, none⟩)) (hb : Blk w g 62 cs) (hz : cs.size = 7) : (results fn tmps).run Tryz.prog w = .ok (.agg cs) w := by
 have hl := run_loadVar_row (P := Tryz.prog) w g 62 62 cs (0, 0) _ hb Tryz.underlying62 rfl (by rw [hz]; kernel_rfl)
 have hp2 : tmps[p]?.getD undef = .pointer (some ⟨g, 0, none⟩) := by simpa using hp
 simp only [results, hr]
 simp [hp2, asAddr, hl]
def zeroRu : Array Value := #[.int .i64 0, .int .i64 0, .int .i64 0, .int .i64 0, .int .i64 0, .bool false, .slice none 0 0]
def ruleT (ns : List Int) (d : Decl) : RuleM := ⟨d.kind - 10, ns.getD 0 0, if d.kind = 14 then ns.getD 1 0 else 0, d.nums.getD 0 0, d.by_, d.always, if d.kind = 13 then sortI (ns.drop 1) else []⟩
theorem rule_cells {W : World} {g : Nat} {T : TypeId} (h : Blk W g T zeroRu) : ∀ i, i < 7 → (∃ u, W.cell? ⟨g, i, none⟩ = some u) ∧ W.frozen? ⟨g, i, none⟩ = false := fun i hi => ⟨by rw [h.cell i]; exact ⟨_, Array.getElem?_eq_getElem (by simpa [zeroRu] using hi)⟩, h.frozen i⟩
def cellsRu (x : RuleM) (v : Value) : Array Value := #[.int .i64 x.kind, .int .i64 x.item, .int .i64 x.other, .int .i64 x.n, .int .i64 x.by_, .bool x.always, v]
def RuleQ (w : World) (x : RuleM) (e : Ending) (w' : World) : Prop := ∃ A c, e = .returned (.agg (cellsRu x (.slice A x.machines.length c))) ∧ OwnI w.heap.size w' (.slice A x.machines.length c) x.machines ∧ Below w.heap.size w w'
theorem rla_prog (br mt : Nat) (ts : List Thing) (d : Decl) (ra na : Option Addr) (rc nc : Nat) (w : World) (hb : w.cell? ⟨br, 0, none⟩ = some (.map (some mt))) (hm : AM keyStr w mt (thL ts)) (hr : Strs w w.heap.size ra d.refs) (hrl : d.refs.length ≤ 1000) (hn : Ints w w.heap.size na d.nums) (hnl : d.nums.length ≤ 1) (hk : 10 ≤ d.kind ∧ d.kind ≤ 16) (h13 : d.kind = 13 → 1 ≤ d.refs.length) :
    Calls Tryz.prog 27 #[.pointer (some ⟨br, 0, none⟩), .agg #[.int .i64 d.kind, .string d.name, .slice ra d.refs.length rc, .slice na d.nums.length nc, .int .i64 d.by_, .bool d.always]] w (RuleQ w (ruleT (d.refs.map (thNum ts)) d)) := by
 obtain ⟨wa, hwa⟩ : ∃ wa, wa = (w.alloc (.cells #[.int .i64 d.kind, .string d.name, .slice ra d.refs.length rc, .slice na d.nums.length nc, .int .i64 d.by_, .bool d.always] 43)).alloc (.cells zeroRu 62) := ⟨_, rfl⟩
 have hba : Below w.heap.size w wa := by rw [hwa]; exact ((Below.refl _ _).alloc (Nat.le_refl _) _).alloc (by simp) _
 have HXA := hide (show Blk wa w.heap.size 43 #[.int .i64 d.kind, .string d.name, .slice ra d.refs.length rc, .slice na d.nums.length nc, .int .i64 d.by_, .bool d.always] from by rw [hwa]; exact (Blk.new w _ _).alloc _)
 have HZA := hide (show Blk wa (w.heap.size + 1) 62 zeroRu from by rw [hwa]; have := Blk.new (w.alloc (.cells #[.int .i64 d.kind, .string d.name, .slice ra d.refs.length rc, .slice na d.nums.length nc, .int .i64 d.by_, .bool d.always] 43)) 62 zeroRu; rwa [World.size_alloc] at this)
 have bl : br < w.heap.size := by
  rcases Nat.lt_or_ge br w.heap.size with h | h
  · exact h
  · simp [World.cell?, Array.getElem?_eq_none h] at hb
 have HNU := hide (rnumbers_prog br mt ts ra rc d.refs wa ((hba.cell (p := ⟨br, 0, none⟩) bl).trans hb) (Nat.lt_of_lt_of_le bl hba.size) (hm.keep (hba.block mt hm.lt)) ((hr.below hba).more hba.size) hrl)
 have HNI := hide (fun (W : World) (h : Below wa.heap.size wa W) => (hn.below (hba.trans (h.mono hba.size))))
 have HBA := hide hba
 have HWA := hide hwa
 obtain ⟨ns, hns⟩ : ∃ ns, ns = d.refs.map (thNum ts) := ⟨_, rfl⟩
 have HNS := hide (show ns.length = d.refs.length by rw [hns]; simp)
 rw [← hns] at HNU
 rw [← hns]
 have HRL := hide hrl
 have HK := hide hk
 have H13 := hide h13
 have HNL := hide hnl
 clear hwa hba hb hm hr hrl hn hnl hk h13 hns bl
 go_enter Tryz.func27, Tryz.ntmps27
 go_upto_region 1 with (fail)
 have hwe : (w.alloc (.cells #[.int .i64 d.kind, .string d.name, .slice ra d.refs.length rc, .slice na d.nums.length nc, .int .i64 d.by_, .bool d.always] 43)).alloc (.cells #[.int .i64 0, .int .i64 0, .int .i64 0, .int .i64 0, .int .i64 0, .bool false, .slice none 0 0] 62) = wa := by rw [HWA.out]; rfl
 rw [hwe]
 clear hwe
 have z2 := HXA.out.cell 2
 have zl := HXA.out.lt
 simp at z2
 go_upto_region 2 with (first
  | (go_at_call 26; refine HNU.out.mono ?_; rintro e w1 ⟨v, rfl, ho1, hb1⟩
     have HB1 := hide hb1
     have HO1 := hide ho1
     clear ho1 hb1)
  | (at_builtin; refine append_ints rfl _ _ rfl wa.heap.size v ns rfl (HO1.out.alloc _) _ _ 2 [0, 0] rfl (Ints.newRow2 w1 3 [0, 0] rfl) (by have := HNS.out; have := HRL.out; simp; omega) (by have := HB1.out.size; simp; omega) ?_
     intro v3 w3 ho3 hg3 _
     have HO3 := hide ho3
     have HB3 := hide (Below.ofGrown (HB1.out.alloc HB1.out.size (.cells #[.int .i64 0, .int .i64 0] 3)) hg3 (by have := HB1.out.size; simp; omega) (fun g e => (HO1.out.lt g e).1))
     clear ho3 hg3))
 rcases HO3.out.2 with ⟨_, h00⟩ | ⟨b4, c4, cur, e, hb4, hcur, hl4, _, _, htk⟩
 · simp at h00
 subst e
 have hB4 : Blk w3 b4 3 cur := hcur
 have hcc : ∀ j, j < 2 → cur[j]? = some (Value.int .i64 (ns.getD j 0)) := fun j hj => by
  have : (cur.toList.take ((ns ++ [0, 0]).length * 1))[j]? = ((ns ++ [0, 0]).map (Value.int .i64))[j]? := by rw [htk]
  rw [List.getElem?_take_of_lt (by simp; omega), Array.getElem?_toList] at this
  rw [this, List.getElem?_map, List.getD_eq_getElem?_getD]
  rcases Nat.lt_or_ge j ns.length with h | h
  · rw [List.getElem?_append_left h, List.getElem?_eq_getElem h]; rfl
  · rw [List.getElem?_append_right h, List.getElem?_eq_none h]
    have : j - ns.length = 0 ∨ j - ns.length = 1 := by omega
    rcases this with e | e <;> rw [e] <;> rfl
 have HCA := hide (fun j (hj : j < ns.length) => show cur[j]? = some (Value.int .i64 ns[j]) from by
  have : (cur.toList.take ((ns ++ [0, 0]).length * 1))[j]? = ((ns ++ [0, 0]).map (Value.int .i64))[j]? := by rw [htk]
  rw [List.getElem?_take_of_lt (by simp; omega), Array.getElem?_toList] at this
  rw [this, List.getElem?_map, List.getElem?_append_left hj, List.getElem?_eq_getElem hj]; rfl)
 obtain ⟨i0, hi0⟩ : ∃ i0, i0 = ns.getD 0 0 := ⟨_, rfl⟩
 obtain ⟨i1, hi1⟩ : ∃ i1, i1 = ns.getD 1 0 := ⟨_, rfl⟩
 have HI0 := hide (And.intro hi0 hi1)
 obtain ⟨n3, hn3⟩ : ∃ n3, n3 = (ns ++ [0, 0]).length := ⟨_, rfl⟩
 have HN3 := hide (show n3 = d.refs.length + 2 by rw [hn3, ← HNS.out]; simp)
 have hn2 : 2 ≤ n3 := by rw [HN3.out]; omega
 rw [← hn3] at hl4
 rw [← hn3]
 have HB4 := hide hB4
 have HC4 := hide (And.intro (hcc 0 (by decide)) (hcc 1 (by decide)))
 have HXB := hide (HXA.out.below HB3.out HXA.out.lt)
 have z0 := HXB.out.cell 0
 have z4 := HXB.out.cell 4
 have z5 := HXB.out.cell 5
 have zl3 := HXB.out.lt
 simp at z0 z4 z5
 have y0 : w3.cell? ⟨b4, 0, none⟩ = some (.int .i64 i0) := by rw [hi0]; exact (hB4.cell 0).trans (hcc 0 (by decide))
 have yl := hB4.lt
 obtain ⟨dk, hdk⟩ : ∃ dk, dk = d.kind := ⟨_, rfl⟩
 have HDK := hide hdk
 rw [← hdk] at z0
 have hdk2 : 10 ≤ dk ∧ dk ≤ 16 := by rw [hdk]; exact HK.out
 have hw10 : IntKind.i64.wrap (dk - 10) = dk - 10 := IntWalk.i64_in _ (by omega)
 have hn2I : (0 : Int) < (n3 : Int) := by omega
 have hn2N : 0 < n3 := by omega
 have HL4 := hide hl4
 obtain ⟨dcs, hdcs⟩ : ∃ dcs : Array Value, dcs = #[.int .i64 d.kind, .string d.name, .slice ra d.refs.length rc, .slice na d.nums.length nc, .int .i64 d.by_, .bool d.always] := ⟨_, rfl⟩
 have HDC := hide hdcs
 rw [← hdcs] at HXB
 have hb4w := hb4
 have HB4W := hide hb4
 clear hcur htk hB4 hcc hi0 hi1 hn3 z2 zl hdk hl4 hdcs hb4w hb4
 go_cut [6] from 15 to 26 (fun v wx => v = .pointer (some ⟨w3.heap.size, 0, none⟩) ∧ wx = (w3.alloc (.cells #[.int .i64 (dk - 10), .int .i64 i0, .int .i64 0, .int .i64 0, .int .i64 d.by_, .bool d.always, .slice none 0 0] 62)).drew)
 case first =>
  go_region_held3 (fun W => W.cell? ⟨w.heap.size, 0, none⟩ = some (.int .i64 dk) ∧ W.cell? ⟨w.heap.size, 4, none⟩ = some (.int .i64 d.by_) ∧ W.cell? ⟨w.heap.size, 5, none⟩ = some (.bool d.always) ∧ W.cell? ⟨b4, 0, none⟩ = some (.int .i64 i0)) (go_keep) (fail)
  all_goals
   go_wp2_with fail
   go_meet
   case rel => exact ⟨rfl, rfl⟩
 case rest =>
  obtain ⟨rfl, hwx⟩ := hcut
  rename World => w4
  have HX4 := hide (show Blk w4 w3.heap.size 62 #[.int .i64 (dk - 10), .int .i64 i0, .int .i64 0, .int .i64 0, .int .i64 d.by_, .bool d.always, .slice none 0 0] from by rw [hwx]; exact Blk.new w3 _ _)
  have HB34 := hide (show Below w3.heap.size w3 w4 from by rw [hwx]; exact ((Below.refl _ _).alloc (Nat.le_refl _) _).drew)
  have HBA4 := hide (HB3.out.trans (HB34.out.mono HB3.out.size))
  obtain ⟨bx, hbx⟩ : ∃ bx, bx = w3.heap.size := ⟨_, rfl⟩
  have HBX := hide hbx
  rw [← hbx] at HX4
  rw [← hbx]
  clear hwx z0 z4 z5 zl3 y0 yl hbx
  have HD4 := hide (HXB.out.below HB34.out HXB.out.lt)
  have HB44 := hide (HB4.out.below HB34.out HB4.out.lt)
  have hd4 : Blk w4 w.heap.size 43 #[.int .i64 d.kind, .string d.name, .slice ra d.refs.length rc, .slice na d.nums.length nc, .int .i64 d.by_, .bool d.always] := by rw [← HDC.out]; exact HD4.out
  have HD5 := hide hd4
  have z0 := hd4.cell 0
  have z3 := hd4.cell 3
  have zl := hd4.lt
  simp at z0 z3
  have HWL := hide (show w.heap.size + 1 < wa.heap.size from HZA.out.lt)
  have HX4' := hide (show w3.heap.size < w4.heap.size from by have := HX4.out.lt; rwa [HBX.out] at this)
  have HBXG := hide (show wa.heap.size ≤ bx by rw [HBX.out]; exact HB3.out.size)
  clear hd4
  go_wp2_with fail
  go_loopw [29] (fun i wr => ∃ k : Nat, k ≤ d.nums.length ∧ i = .int .i64 k ∧ Hid (Blk wr bx 62 #[.int .i64 (dk - 10), .int .i64 i0, .int .i64 0, .int .i64 (if k = 0 then 0 else d.nums.getD (k - 1) 0), .int .i64 d.by_, .bool d.always, .slice none 0 0]) ∧ Hid (But bx w4.heap.size w4 wr)) (fun i _ => d.nums.length - (intOf i).toNat)
  case atStart => exact ⟨0, Nat.zero_le _, rfl, HX4, hide (But.refl _ _ _)⟩
  case round =>
   obtain ⟨k, hk, rfl, hX, hb⟩ := hrel
   clear z0 z3 zl HX4
   rename World => w5
   have HB5 := hide (HBA4.out.trans ((hb.out.below (by have := HB34.out.size; rw [HBX.out]; exact this)).mono HBXG.out))
   by_cases hlt : k < d.nums.length
   · obtain ⟨b, off, hA, hnb, x0⟩ := int_at (HNI.out _ HB5.out) hlt
     have HQ := hide (show d.nums.getD k 0 = d.nums[k] by rw [List.getD_eq_getElem?_getD, List.getElem?_eq_getElem hlt]; rfl)
     obtain ⟨q, hq⟩ : ∃ q, q = d.nums[k] := ⟨_, rfl⟩
     rw [← hq] at x0 HQ
     have HXS := hide (hX.out.set_ 3 (.int .i64 q))
     have q3 := hX.out.cell 3
     have f3 := hX.out.frozen 3
     have l3 := hX.out.lt
     simp at q3
     have hltI : (k : Int) < (d.nums.length : Int) := by omega
     subst hA
     clear hq
     have hnl1 := HNL.out
     go_wp2_with fail
     go_roundw
     case rel => exact ⟨k + 1, by omega, by go_num, hide (by rw [if_neg (by omega), Nat.add_sub_cancel, HQ.out]; exact HXS.out), hide (hb.out.trans (But.set_ _ _ _))⟩
     case measure => simp [intOf]; omega
   · obtain rfl : k = d.nums.length := by omega
     have HNV := hide (show (if d.nums.length = 0 then 0 else d.nums.getD (d.nums.length - 1) 0) = d.nums.getD 0 0 from by
      have := HNL.out
      have : d.nums.length = 0 ∨ d.nums.length = 1 := by omega
      rcases this with e | e
      · rw [if_pos e, List.eq_nil_of_length_eq_zero e]; rfl
      · rw [if_neg (by omega), e])
     have hx5 := hX.out
     rw [HNV.out] at hx5
     obtain ⟨nv, hnv⟩ : ∃ nv, nv = d.nums.getD 0 0 := ⟨_, rfl⟩
     have HNN := hide hnv
     rw [← hnv] at hx5
     have HX5 := hide hx5
     have HB6 := hide (fun (W : World) (h : Below w5.heap.size w5 W) => HBA4.out.trans ((hb.out.below (by have := HB34.out.size; rw [HBX.out]; exact this)).mono HBXG.out) |>.trans (h.mono (Nat.le_trans HBA4.out.size hb.out.size)))
     have HD6 := hide (hb.out.blk HD5.out (by have := HD5.out.lt; exact this) (by have := HWL.out; have := HBXG.out; omega))
     have HN6 := hide (hb.out.blk HB44.out HB44.out.lt (by have := HB4.out.lt; rw [HBX.out]; omega))
     have z0 := HD6.out.cell 0
     have z2 := HD6.out.cell 2
     have zl := HD6.out.lt
     simp at z0 z2
     rw [← HDK.out] at z0
     have HRT := hide (show ruleT ns d = ⟨dk - 10, i0, if dk = 14 then i1 else 0, nv, d.by_, d.always, if dk = 13 then sortI (ns.drop 1) else []⟩ from by
      unfold ruleT; rw [HDK.out, HI0.out.1, HI0.out.2, HNN.out])
     clear hb hx5 hX hnv
     by_cases e13 : dk = 13
     · have g13 : (dk == 13) = true := by simpa using e13
       subst e13
       have h1r := H13.out (by rw [← HDK.out])
       have h1I : (1 : Int) ≤ (d.refs.length : Int) := by omega
       have hrc4 : d.refs.length ≤ c4 := by have := HL4.out; have := HN3.out; omega
       have hrc4I : (d.refs.length : Int) ≤ (c4 : Int) := by omega
       have h1c : 1 ≤ c4 := by omega
       have hc1 : ¬ c4 = 1 := by have := HL4.out; have := HN3.out; omega
       rw [if_neg (by decide), if_pos rfl] at HRT
       obtain ⟨ds, hds⟩ : ∃ ds, ds = ns.drop 1 := ⟨_, rfl⟩
       have HDS := hide (show ds.length = d.refs.length - 1 from by rw [hds, ← HNS.out]; simp)
       rw [← hds] at HRT
       have hints : Ints w5 w5.heap.size (some ⟨b4, 1, none⟩) ds := by
        refine ⟨by simp, fun _ => ⟨_, rfl, HN6.out.lt, fun j u hu => ?_⟩⟩
        rw [add_none]
        refine (HN6.out.cell (1 + j)).trans ?_
        rw [List.getElem?_map, hds, List.getElem?_drop] at hu
        rcases Nat.lt_or_ge (1 + j) ns.length with h | h
        · rw [List.getElem?_eq_getElem h] at hu
          rw [HCA.out _ h, ← hu]; rfl
        · rw [List.getElem?_eq_none h] at hu; cases hu
       obtain ⟨nd, hnd⟩ : ∃ nd, nd = d.refs.length - 1 := ⟨_, rfl⟩
       have HND := hide (show ds.length = nd by rw [hnd]; exact HDS.out)
       have HSO := hide (fun (W : World) (h : Below w5.heap.size w5 W) (hb : Blk W w5.heap.size 41 #[.slice (some ⟨b4, 1, none⟩) ds.length (c4 - 1)]) => sortedI w5.heap.size ds (some ⟨b4, 1, none⟩) (c4 - 1) W (by have := HNS.out; have := HRL.out; have := HDS.out; omega) hb (hints.grow h))
       have HVA := hide (fun n => valuesI_prog (some ⟨b4, 1, none⟩) n (c4 - 1) w5)
       have hndE : d.refs.length - 1 = nd := hnd.symm
       clear hds hints hnd
       go_upto_region 13 with (first
        | (go_at_call 67; refine (HVA.out _).mono ?_; rintro e w6 ⟨rfl, hw6⟩
           have HB56 := hide (show Below w5.heap.size w5 w6 from by rw [hw6]; exact (Below.refl _ _).alloc (Nat.le_refl _) _)
           have HSQ := hide (HSO.out w6 HB56.out (by rw [hw6, HND.out]; exact Blk.new _ _ _))
           clear hw6)
        | (go_at_call 66; refine HSQ.out.mono ?_; rintro e w8 ⟨v8, rfl, ho8, hb8⟩
           obtain ⟨os, hos⟩ : ∃ os, os = sortI ds := ⟨_, rfl⟩
           rw [← hos] at ho8 HRT
           obtain ⟨A8, c8, rfl, _, _⟩ := ho8.form
           have HO8 := hide ho8
           have HB58 := hide (HB56.out.trans (hb8.mono HB56.out.size))
           have HS6 := hide HB56.out.size
           have HX8 := hide (HX5.out.below HB58.out HX5.out.lt)
           have u6 := HX8.out.cell 6
           have f6 := HX8.out.frozen 6
           have ul := HX8.out.lt
           simp at u6
           clear ho8 hb8 hos))
       obtain ⟨wz, hwz⟩ : ∃ wz, wz = w8.setCell ⟨bx, 6, none⟩ (.slice A8 os.length c8) := ⟨_, rfl⟩
       have hbz : But bx w8.heap.size w8 wz := by rw [hwz]; exact But.set_ _ _ _
       have HXW := hide (show Blk wz bx 62 #[.int .i64 (13 - 10), .int .i64 i0, .int .i64 0, .int .i64 nv, .int .i64 d.by_, .bool d.always, .slice A8 os.length c8] from by rw [hwz]; exact HX8.out.set_ 6 (.slice A8 os.length c8))
       have hgt : wa.heap.size ≤ bx := HBXG.out
       have hbz2 : Below wa.heap.size w8 wz := (hbz.below (by have := HX8.out.lt; omega)).mono hgt
       have hb6 := HB6.out _ HB58.out
       have HZW := hide (HZA.out.below (hb6.trans hbz2) HZA.out.lt)
       have HBW := hide (HBA.out.trans ((hb6.trans hbz2).mono HBA.out.size))
       have HOZ := hide (HO8.out.but hbz (by have := HX5.out.lt; have := HS6.out; omega))
       have HBS := hide (show w.heap.size + 2 ≤ w6.heap.size from by have := HZA.out.lt; have := (HB6.out _ (Below.refl _ _)).size; have := HS6.out; omega)
       have HWZ := hide hwz
       clear hwz hbz hbz2 hgt hb6
       rw [← HWZ.out]
       clear u6 f6 ul z0 z2 zl
       have x0 := HXW.out.cell 0
       have x1 := HXW.out.cell 1
       have x2 := HXW.out.cell 2
       have x3 := HXW.out.cell 3
       have x4 := HXW.out.cell 4
       have x5 := HXW.out.cell 5
       have x6 := HXW.out.cell 6
       have xl := HXW.out.lt
       simp at x0 x1 x2 x3 x4 x5 x6
       obtain ⟨⟨q0, t0⟩, f0⟩ := rule_cells HZW.out 0 (by decide)
       obtain ⟨⟨q1, t1⟩, f1⟩ := rule_cells HZW.out 1 (by decide)
       obtain ⟨⟨q2, t2⟩, f2⟩ := rule_cells HZW.out 2 (by decide)
       obtain ⟨⟨q3, t3⟩, f3⟩ := rule_cells HZW.out 3 (by decide)
       obtain ⟨⟨q4, t4⟩, f4⟩ := rule_cells HZW.out 4 (by decide)
       obtain ⟨⟨q5, t5⟩, f5⟩ := rule_cells HZW.out 5 (by decide)
       obtain ⟨⟨q6, t6⟩, f6⟩ := rule_cells HZW.out 6 (by decide)
       have tl := HZW.out.lt
       go_wp2_with fail
       rw [HRT.out]
       refine bodyPost_ret (ret_rule rfl _ _ (w.heap.size + 1) #[.int .i64 (13 - 10), .int .i64 i0, .int .i64 0, .int .i64 nv, .int .i64 d.by_, .bool d.always, .slice A8 os.length c8] rfl (((((((HZW.out.set_ 0 _).set_ 1 _).set_ 2 _).set_ 3 _).set_ 4 _).set_ 5 _).set_ 6 _) rfl) rfl ?_
       have hbut : But (w.heap.size + 1) wz.heap.size wz _ := (But.set_ wz 0 (.int .i64 (13 - 10))).trans ((But.set_ _ 1 (.int .i64 i0)).trans ((But.set_ _ 2 (.int .i64 0)).trans ((But.set_ _ 3 (.int .i64 nv)).trans ((But.set_ _ 4 (.int .i64 d.by_)).trans ((But.set_ _ 5 (.bool d.always)).trans (But.set_ _ 6 (.slice A8 os.length c8)))))))
       have hs1 := HBW.out.size
       have hs2 := HZW.out.lt
       exact ⟨_, _, rfl, (own_lowerD (OwnI.but HOZ.out hbut (by have := HBS.out; omega)) (by have := HBS.out; omega)), HBW.out.trans ((hbut.below (by omega)).mono (by omega))⟩
     · have g13 : (dk == 13) = false := by simpa using e13
       by_cases e14 : dk = 14
       · have g14 : (dk == 14) = true := by simpa using e14
         subst e14
         have y1 := (HN6.out.cell 1).trans HC4.out.2
         rw [← HI0.out.2] at y1
         have yl := HN6.out.lt
         have hn1I : (1 : Int) < (n3 : Int) := by omega
         have u2 := HX5.out.cell 2
         have f2 := HX5.out.frozen 2
         have ul := HX5.out.lt
         simp at u2
         rw [if_pos rfl, if_neg (by decide)] at HRT
         obtain ⟨wz, hwz⟩ : ∃ wz, wz = w5.setCell ⟨bx, 2, none⟩ (.int .i64 i1) := ⟨_, rfl⟩
         have hbz : But bx w5.heap.size w5 wz := by rw [hwz]; exact But.set_ _ _ _
         have HXW := hide (show Blk wz bx 62 #[.int .i64 (14 - 10), .int .i64 i0, .int .i64 i1, .int .i64 nv, .int .i64 d.by_, .bool d.always, .slice none 0 0] from by rw [hwz]; exact HX5.out.set_ 2 (.int .i64 i1))
         have hgt : wa.heap.size ≤ bx := HBXG.out
         have hbz2 : Below wa.heap.size w5 wz := (hbz.below (by have := HX5.out.lt; omega)).mono hgt
         have HZW := hide (HZA.out.below ((HB6.out _ (Below.refl _ _)).trans hbz2) HZA.out.lt)
         have HBW := hide (HBA.out.trans (((HB6.out _ (Below.refl _ _)).trans hbz2).mono HBA.out.size))
         have HWZ := hide hwz
         clear hwz hbz hbz2 hgt
         go_upto_region 13 with (fail)
         rw [← HWZ.out]
         clear u2 f2 ul y1 yl z0 z2 zl
         have x0 := HXW.out.cell 0
         have x1 := HXW.out.cell 1
         have x2 := HXW.out.cell 2
         have x3 := HXW.out.cell 3
         have x4 := HXW.out.cell 4
         have x5 := HXW.out.cell 5
         have x6 := HXW.out.cell 6
         have xl := HXW.out.lt
         simp at x0 x1 x2 x3 x4 x5 x6
         obtain ⟨⟨q0, t0⟩, f0⟩ := rule_cells HZW.out 0 (by decide)
         obtain ⟨⟨q1, t1⟩, f1⟩ := rule_cells HZW.out 1 (by decide)
         obtain ⟨⟨q2, t2⟩, f2⟩ := rule_cells HZW.out 2 (by decide)
         obtain ⟨⟨q3, t3⟩, f3⟩ := rule_cells HZW.out 3 (by decide)
         obtain ⟨⟨q4, t4⟩, f4⟩ := rule_cells HZW.out 4 (by decide)
         obtain ⟨⟨q5, t5⟩, f5⟩ := rule_cells HZW.out 5 (by decide)
         obtain ⟨⟨q6, t6⟩, f6⟩ := rule_cells HZW.out 6 (by decide)
         have tl := HZW.out.lt
         go_wp2_with fail
         rw [HRT.out]
         refine bodyPost_ret (ret_rule rfl _ _ (w.heap.size + 1) #[.int .i64 (14 - 10), .int .i64 i0, .int .i64 i1, .int .i64 nv, .int .i64 d.by_, .bool d.always, .slice none 0 0] rfl (((((((HZW.out.set_ 0 _).set_ 1 _).set_ 2 _).set_ 3 _).set_ 4 _).set_ 5 _).set_ 6 _) rfl) rfl ?_
         have hbut : But (w.heap.size + 1) wz.heap.size wz _ := (But.set_ wz 0 (.int .i64 (14 - 10))).trans ((But.set_ _ 1 (.int .i64 i0)).trans ((But.set_ _ 2 (.int .i64 i1)).trans ((But.set_ _ 3 (.int .i64 nv)).trans ((But.set_ _ 4 (.int .i64 d.by_)).trans ((But.set_ _ 5 (.bool d.always)).trans (But.set_ _ 6 (.slice none 0 0)))))))
         have hs1 := HBW.out.size
         have hs2 := HZW.out.lt
         exact ⟨_, _, rfl, OwnI.nil_ _ _, HBW.out.trans ((hbut.below (by omega)).mono (by omega))⟩
       · have g14 : (dk == 14) = false := by simpa using e14
         rw [if_neg e14, if_neg e13] at HRT
         clear e13 e14
         have HXW := hide HX5.out
         have HZW := hide (HZA.out.below (HB6.out _ (Below.refl _ _)) HZA.out.lt)
         have HBW := hide (HBA.out.trans ((HB6.out _ (Below.refl _ _)).mono HBA.out.size))
         have x0 := HXW.out.cell 0
         have x1 := HXW.out.cell 1
         have x2 := HXW.out.cell 2
         have x3 := HXW.out.cell 3
         have x4 := HXW.out.cell 4
         have x5 := HXW.out.cell 5
         have x6 := HXW.out.cell 6
         have xl := HXW.out.lt
         simp at x0 x1 x2 x3 x4 x5 x6
         obtain ⟨⟨q0, t0⟩, f0⟩ := rule_cells HZW.out 0 (by decide)
         obtain ⟨⟨q1, t1⟩, f1⟩ := rule_cells HZW.out 1 (by decide)
         obtain ⟨⟨q2, t2⟩, f2⟩ := rule_cells HZW.out 2 (by decide)
         obtain ⟨⟨q3, t3⟩, f3⟩ := rule_cells HZW.out 3 (by decide)
         obtain ⟨⟨q4, t4⟩, f4⟩ := rule_cells HZW.out 4 (by decide)
         obtain ⟨⟨q5, t5⟩, f5⟩ := rule_cells HZW.out 5 (by decide)
         obtain ⟨⟨q6, t6⟩, f6⟩ := rule_cells HZW.out 6 (by decide)
         have tl := HZW.out.lt
         go_wp2_with fail
         rw [HRT.out]
         refine bodyPost_ret (ret_rule rfl _ _ (w.heap.size + 1) #[.int .i64 (dk - 10), .int .i64 i0, .int .i64 0, .int .i64 nv, .int .i64 d.by_, .bool d.always, .slice none 0 0] rfl (((((((HZW.out.set_ 0 _).set_ 1 _).set_ 2 _).set_ 3 _).set_ 4 _).set_ 5 _).set_ 6 _) rfl) rfl ?_
         have hbut : But (w.heap.size + 1) w5.heap.size w5 _ := (But.set_ w5 0 (.int .i64 (dk - 10))).trans ((But.set_ _ 1 (.int .i64 i0)).trans ((But.set_ _ 2 (.int .i64 0)).trans ((But.set_ _ 3 (.int .i64 nv)).trans ((But.set_ _ 4 (.int .i64 d.by_)).trans ((But.set_ _ 5 (.bool d.always)).trans (But.set_ _ 6 (.slice none 0 0)))))))
         have hs1 := HBW.out.size
         have hs2 := HZW.out.lt
         exact ⟨_, _, rfl, OwnI.nil_ _ _, HBW.out.trans ((hbut.below (by omega)).mono (by omega))⟩
def LenLe (m : Mod) (k : Nat) : Prop := m.sT.length ≤ k ∧ m.fT.length ≤ k ∧ m.rT.length ≤ k ∧ m.mT.length ≤ k ∧ m.lT.length ≤ k ∧ m.iT.length ≤ k ∧ m.uT.length ≤ k
theorem LenLe.step {m : Mod} {k : Nat} (h : LenLe m k) (l : List Decl) (d : Decl) : LenLe (addM l m d) (k + 1) := by
 obtain ⟨h1, h2, h3, h4, h5, h6, h7⟩ := h
 unfold addM LenLe
 repeat' split
 all_goals
  simp only [List.length_append, List.length_singleton]
  omega
theorem refs_nums {l : List Decl} {d : Decl} (hv : validD d = true) : d.refs.map (thNum (thgs l l.length)) = d.refs.map (numN l) :=
 List.map_congr_left fun _ hr => thNum_numN l (vd_ref hv hr)
theorem ref_at {l : List Decl} {d : Decl} {i : Nat} (h : i < d.refs.length) : (d.refs.map (numN l))[i]? = some (refN l d i) := by
 unfold refN
 rw [List.getElem?_map, List.getElem?_eq_getElem h]; rfl
theorem num_at {d : Decl} {i : Nat} (h : i < d.nums.length) : d.nums[i]? = some (d.nums.getD i 0) := by
 rw [List.getD_eq_getElem?_getD, List.getElem?_eq_getElem h]; rfl
theorem add_any (l : List Decl) (d : Decl) (bm bx : Nat) (hv : validD d = true) (hk : d.kind ≤ 9) : ∃ (g : Nat) (lb : Array Value), getA (adL bm bx) d.kind = some (.func (.func g) #[] lb) ∧ (∀ args w, (callFunc g args).run Tryz.prog w = .ok (.enter g args) w) ∧
    ∀ (B br mt : Nat) (V : MV) (m : Mod) (ra na An : Option Addr) (rc nc cn Bn : Nat) (ns : List Int) (w : World), AD B br mt w V m → B ≤ w.heap.size → Blk w bm 92 #[.pointer (some ⟨br, 1, none⟩)] → Blk w bx 50 #[.pointer (some ⟨br, 0, none⟩)] →
     AM keyStr w mt (thL (thgs l l.length)) → Strs w B ra d.refs → Ints w B na d.nums → d.nums.length ≤ nc → ns = d.refs.map (numN l) → OwnI Bn w (.slice An ns.length cn) ns → LenLe m 900000 →
     Calls Tryz.prog g (#[.agg #[.int .i64 d.kind, .string d.name, .slice ra d.refs.length rc, .slice na d.nums.length nc, .int .i64 d.by_, .bool d.always], .slice An ns.length cn] ++ lb) w (AdnQ B br mt w (addM l m d)) := by
 obtain ⟨k0, _⟩ := vd_kind hv
 obtain ⟨c1, c2, c3⟩ := vd_counts hv
 have hz : d.name.size ≤ 16384 := Nat.le_trans (vd_name hv) (by decide)
 have hr17 := vd_refs17 hv
 have hkk : d.kind = 0 ∨ d.kind = 1 ∨ d.kind = 2 ∨ d.kind = 3 ∨ d.kind = 4 ∨ d.kind = 5 ∨ d.kind = 6 ∨ d.kind = 7 ∨ d.kind = 8 ∨ d.kind = 9 := by omega
 rcases hkk with e | e | e | e | e | e | e | e | e | e
 · refine ⟨51, #[.pointer (some ⟨bm, 0, none⟩)], by rw [e]; rfl, fun _ _ => by kernel_rfl, fun B br mt V m ra na An rc nc cn Bn ns w hA hB hbm hbx hm hr hq hnc hns hn hL => ?_⟩
   unfold addM
   rw [if_pos e]
   exact add1_prog B br mt bm V m d ra na rc nc _ w hA hB hbm hz hL.1
 · refine ⟨52, #[.pointer (some ⟨bm, 0, none⟩)], by rw [e]; rfl, fun _ _ => by kernel_rfl, fun B br mt V m ra na An rc nc cn Bn ns w hA hB hbm hbx hm hr hq hnc hns hn hL => ?_⟩
   unfold addM
   rw [if_neg (show ¬ d.kind = 0 by omega), if_pos e]
   exact add2_prog B br mt bm V m d ra na rc nc _ w hA hB hbm hz hL.2.1
 · refine ⟨53, #[.pointer (some ⟨bm, 0, none⟩)], by rw [e]; rfl, fun _ _ => by kernel_rfl, fun B br mt V m ra na An rc nc cn Bn ns w hA hB hbm hbx hm hr hq hnc hns hn hL => ?_⟩
   have b1 : 2 ≤ d.refs.length := by have := c1; rw [e, show refsLo 2 = 2 from by decide] at this; exact this
   have b3 : d.nums.length = 0 := by have := c3; rw [e, show numsN 2 = 0 from by decide] at this; exact this
   unfold addM
   rw [if_neg (show ¬ d.kind = 0 by omega), if_neg (show ¬ d.kind = 1 by omega), if_pos e]
   exact add3_prog B br mt bm V m d ra na rc nc An cn Bn ns _ _ w hA hB hbm hn (by rw [hns]; exact ref_at (by omega)) (by rw [hns]; exact ref_at (by omega)) hz hL.2.2.1
 · refine ⟨54, #[.pointer (some ⟨bm, 0, none⟩)], by rw [e]; rfl, fun _ _ => by kernel_rfl, fun B br mt V m ra na An rc nc cn Bn ns w hA hB hbm hbx hm hr hq hnc hns hn hL => ?_⟩
   have b1 : 1 ≤ d.refs.length := by have := c1; rw [e, show refsLo 3 = 1 from by decide] at this; exact this
   have b3 : d.nums.length = 1 := by have := c3; rw [e, show numsN 3 = 1 from by decide] at this; exact this
   unfold addM
   rw [if_neg (show ¬ d.kind = 0 by omega), if_neg (show ¬ d.kind = 1 by omega), if_neg (show ¬ d.kind = 2 by omega), if_pos e]
   exact add4_prog B br mt bm V m d ra na rc nc An cn Bn ns _ _ w hA hB hbm hn (by rw [hns]; exact ref_at (by omega)) hq (num_at (by omega)) hz hL.2.2.2.1
 · refine ⟨55, #[.pointer (some ⟨bm, 0, none⟩)], by rw [e]; rfl, fun _ _ => by kernel_rfl, fun B br mt V m ra na An rc nc cn Bn ns w hA hB hbm hbx hm hr hq hnc hns hn hL => ?_⟩
   have b1 : 2 ≤ d.refs.length := by have := c1; rw [e, show refsLo 4 = 2 from by decide] at this; exact this
   have b3 : d.nums.length = 1 := by have := c3; rw [e, show numsN 4 = 1 from by decide] at this; exact this
   unfold addM
   rw [if_neg (show ¬ d.kind = 0 by omega), if_neg (show ¬ d.kind = 1 by omega), if_neg (show ¬ d.kind = 2 by omega), if_neg (show ¬ d.kind = 3 by omega), if_pos e]
   exact add5_prog B br mt bm V m d ra na rc nc An cn Bn ns _ _ _ w hA hB hbm hn (by rw [hns]; exact ref_at (by omega)) (by rw [hns]; exact ref_at (by omega)) hq (num_at (by omega)) hL.2.2.2.2.1
 · refine ⟨56, #[.pointer (some ⟨bm, 0, none⟩), .pointer (some ⟨bx, 0, none⟩)], by rw [e]; rfl, fun _ _ => by kernel_rfl, fun B br mt V m ra na An rc nc cn Bn ns w hA hB hbm hbx hm hr hq hnc hns hn hL => ?_⟩
   have b1 : 1 ≤ d.refs.length := by have := c1; rw [e, show refsLo 5 = 1 from by decide] at this; exact this
   have b3 : d.nums.length = 3 := by have := c3; rw [e, show numsN 5 = 3 from by decide] at this; exact this
   unfold addM
   rw [if_neg (show ¬ d.kind = 0 by omega), if_neg (show ¬ d.kind = 1 by omega), if_neg (show ¬ d.kind = 2 by omega), if_neg (show ¬ d.kind = 3 by omega), if_neg (show ¬ d.kind = 4 by omega), if_pos (show 5 ≤ d.kind ∧ d.kind ≤ 7 by omega)]
   have hit : itemA l d = ⟨d.name, 0, (ns.length : Int), d.nums.getD 0 0, d.nums.getD 1 0, d.nums.getD 2 0, sortI (d.refs.map (thNum (thgs l l.length)))⟩ := by
    unfold itemA lastN
    rw [refs_nums hv, e, hns]
    simp
   rw [hit]
   exact add6_prog B br mt bm bx V m (thgs l l.length) d ra na rc nc An ns.length cn (d.nums.getD 0 0) (d.nums.getD 1 0) (d.nums.getD 2 0) w hA hB hbm hbx hm hr (by omega) hq (by omega) hnc (num_at (by omega)) (num_at (by omega)) (num_at (by omega)) hz hL.2.2.2.2.2.1
 · refine ⟨58, #[.pointer (some ⟨bm, 0, none⟩), .pointer (some ⟨bx, 0, none⟩)], by rw [e]; rfl, fun _ _ => by kernel_rfl, fun B br mt V m ra na An rc nc cn Bn ns w hA hB hbm hbx hm hr hq hnc hns hn hL => ?_⟩
   have b1 : 1 ≤ d.refs.length := by have := c1; rw [e, show refsLo 6 = 1 from by decide] at this; exact this
   have b3 : d.nums.length = 4 := by have := c3; rw [e, show numsN 6 = 4 from by decide] at this; exact this
   unfold addM
   rw [if_neg (show ¬ d.kind = 0 by omega), if_neg (show ¬ d.kind = 1 by omega), if_neg (show ¬ d.kind = 2 by omega), if_neg (show ¬ d.kind = 3 by omega), if_neg (show ¬ d.kind = 4 by omega), if_pos (show 5 ≤ d.kind ∧ d.kind ≤ 7 by omega)]
   have hit : itemA l d = ⟨d.name, 1, d.nums.getD 0 0, d.nums.getD 1 0, d.nums.getD 2 0, d.nums.getD 3 0, sortI (d.refs.map (thNum (thgs l l.length)))⟩ := by
    unfold itemA lastN
    rw [refs_nums hv, e]
    have : d.nums.drop 1 = d.nums.drop 1 := rfl
    simp [List.getD_eq_getElem?_getD, Nat.add_comm]
   rw [hit]
   exact add7_prog B br mt bm bx V m (thgs l l.length) d ra na rc nc _ (d.nums.getD 0 0) (d.nums.getD 1 0) (d.nums.getD 2 0) (d.nums.getD 3 0) w hA hB hbm hbx hm hr (by omega) hq (by omega) hnc (num_at (by omega)) (num_at (by omega)) (num_at (by omega)) (num_at (by omega)) hz hL.2.2.2.2.2.1
 · refine ⟨59, #[.pointer (some ⟨bm, 0, none⟩), .pointer (some ⟨bx, 0, none⟩)], by rw [e]; rfl, fun _ _ => by kernel_rfl, fun B br mt V m ra na An rc nc cn Bn ns w hA hB hbm hbx hm hr hq hnc hns hn hL => ?_⟩
   have b1 : 1 ≤ d.refs.length := by have := c1; rw [e, show refsLo 7 = 1 from by decide] at this; exact this
   have b3 : d.nums.length = 3 := by have := c3; rw [e, show numsN 7 = 3 from by decide] at this; exact this
   unfold addM
   rw [if_neg (show ¬ d.kind = 0 by omega), if_neg (show ¬ d.kind = 1 by omega), if_neg (show ¬ d.kind = 2 by omega), if_neg (show ¬ d.kind = 3 by omega), if_neg (show ¬ d.kind = 4 by omega), if_pos (show 5 ≤ d.kind ∧ d.kind ≤ 7 by omega)]
   have hit : itemA l d = ⟨d.name, 2, 1, d.nums.getD 0 0, d.nums.getD 1 0, d.nums.getD 2 0, sortI (d.refs.map (thNum (thgs l l.length)))⟩ := by
    unfold itemA lastN
    rw [refs_nums hv, e]
    simp
   rw [hit]
   exact add8_prog B br mt bm bx V m (thgs l l.length) d ra na rc nc _ (d.nums.getD 0 0) (d.nums.getD 1 0) (d.nums.getD 2 0) w hA hB hbm hbx hm hr (by omega) hq (by omega) hnc (num_at (by omega)) (num_at (by omega)) (num_at (by omega)) hz hL.2.2.2.2.2.1
 · refine ⟨60, #[.pointer (some ⟨bm, 0, none⟩)], by rw [e]; rfl, fun _ _ => by kernel_rfl, fun B br mt V m ra na An rc nc cn Bn ns w hA hB hbm hbx hm hr hq hnc hns hn hL => ?_⟩
   have b1 : 1 ≤ d.refs.length := by have := c1; rw [e, show refsLo 8 = 1 from by decide] at this; exact this
   have b3 : d.nums.length = 2 := by have := c3; rw [e, show numsN 8 = 2 from by decide] at this; exact this
   unfold addM
   rw [if_neg (show ¬ d.kind = 0 by omega), if_neg (show ¬ d.kind = 1 by omega), if_neg (show ¬ d.kind = 2 by omega), if_neg (show ¬ d.kind = 3 by omega), if_neg (show ¬ d.kind = 4 by omega), if_neg (show ¬ (5 ≤ d.kind ∧ d.kind ≤ 7) by omega), if_pos e]
   exact add9_prog B br mt bm V m d ra na An rc nc cn Bn ns _ _ _ w hA hB hbm hn (by rw [hns]; exact ref_at (by omega)) hq (num_at (by omega)) (num_at (by omega))
 · refine ⟨61, #[.pointer (some ⟨bm, 0, none⟩)], by rw [e]; rfl, fun _ _ => by kernel_rfl, fun B br mt V m ra na An rc nc cn Bn ns w hA hB hbm hbx hm hr hq hnc hns hn hL => ?_⟩
   unfold addM
   rw [if_neg (show ¬ d.kind = 0 by omega), if_neg (show ¬ d.kind = 1 by omega), if_neg (show ¬ d.kind = 2 by omega), if_neg (show ¬ d.kind = 3 by omega), if_neg (show ¬ d.kind = 4 by omega), if_neg (show ¬ (5 ≤ d.kind ∧ d.kind ≤ 7) by omega), if_neg (show ¬ d.kind = 8 by omega), if_pos e]
   exact add10_prog B br mt bm V m d ra na rc nc _ w hA hB hbm
end Go.Proofs.YtcfogipaadhbeaaGreatDoor
