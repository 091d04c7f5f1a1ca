/- A part of the claim: see its last text. -/
import Derived.Test.YtcfogipaadhbeaaGreatDoorUK01
import Derived.Deep.Slices
import Derived.Deep.Fields
import Derived.Deep.Strs
import Derived.ChangeSame
import Derived.Below
import Derived.Lib.SmallJoins

set_option maxRecDepth 100000
set_option maxHeartbeats 16000000
namespace Go.Proofs.YtcfogipaadhbeaaGreatDoor
open Go Go.Proofs Go.RowKit Go.Joins Go.ChangeShapes Go.WideShapes Go.Deep
section
variable {H : Type} {enc : TypeId × Value → H} {P : Program} {w : World} {base : Nat} {spare : Nat → Bool} {held : Bool}
theorem open_slice_fields {t e : TypeId} {fs : Array Field} {fuel : Nat} {cs : List Value} {x : DataW H × List MemPlace} (ht : P.underlying t = some (.slice e)) (he : P.underlying e = some (.struct fs))
    (hone : oneCellFields P fs = true) (hC : P.cellsOf e = fs.size) (h : DataW.trod enc P w base spare held fuel t cs = some x) :
    (cs = [.slice none 0 0] ∧ x = (.nil, [])) ∨
    ∃ (a : Addr) (len cap m : Nat) (D : Nat → DataW H) (Pl : Nat → List MemPlace), cs = [.slice (some a) len cap] ∧ base ≤ a.block ∧ len ≤ cap ∧ cap ≤ maxLen ∧ m = (if spare a.block then cap else len) ∧
     x = (.slice ((List.range len).map D) ((List.range (m - len)).map fun j => D (len + j)), MemPlace.row a (m * fs.size) ++ (List.range m).flatMap Pl) ∧
     ∀ i, i < m → ∃ (ys : List (DataW H × List MemPlace)) (n : Nat), D i = .agg (ys.map (·.1)) ∧ Pl i = ys.flatMap (·.2) ∧ ys.length = fs.size ∧
      ∀ (j : Nat) (f : Field), fs[j]? = some f → ∃ (v : Value) (y : DataW H × List MemPlace), w.cell? (a.add (i * fs.size + j)) = some v ∧ ys[j]? = some y ∧ DataW.trod enc P w base spare held n f.type [v] = some y := by
 rcases open_slice ht h with h0 | ⟨a, len, cap, m, n, D, Pl, hcs, hb, hl, hm, hmm, hx, hi⟩
 · exact .inl h0
 · refine .inr ⟨a, len, cap, m, D, Pl, hcs, hb, hl, hm, hmm, by rw [hC] at hx; exact hx, fun i him => ?_⟩
   obtain ⟨cs', hc, ht'⟩ := hi i him
   rw [hC] at hc
   obtain ⟨ys, n', hn', hy, hlen, hyl, hf⟩ := DataW.trod_struct he ht'
   obtain ⟨_, hcl, hat⟩ := World.cells?_some hc
   simp only [Prod.mk.injEq] at hy
   refine ⟨ys, n', hy.1, hy.2, hyl, fun j f hj => ?_⟩
   obtain ⟨ho, hk⟩ := hone_of hone j f hj
   have hjl : j < fs.size := (Array.getElem?_eq_some_iff.1 hj).1
   have hcell := hat j hjl
   have hv : cs'[j]? = some (cs'[j]'(by omega)) := List.getElem?_eq_getElem (by omega)
   have h1 := hf j f hj
   rw [ho, hk] at h1
   have hone' : (cs'.drop j).take 1 = [cs'[j]'(by omega)] := by
    rw [List.drop_eq_getElem_cons (by omega)]
    rfl
   rw [hone'] at h1
   have hys : ys[j]? = some (ys[j]'(by omega)) := List.getElem?_eq_getElem (by omega)
   refine ⟨_, _, ?_, hys, h1.trans hys⟩
   rw [← Go.Deep.add_add, hcell, hv]
end
section
variable {H : Type} {enc : TypeId × Value → H} {P : Program} {w : World} {base : Nat} {spare : Nat → Bool} {held : Bool}
end
section
variable {H : Type} {enc : TypeId × Value → H} {P : Program}
theorem post_of_below {f : Func} {s : ChangeSpec} {apart fresh handsOn again : Bool} {W W' : World} {args : Array Value} {v : Value} {ds gs : List (DataW H)} {before pa pv : List MemPlace}
    (hW : DataW.Whole enc P f.params.toList s.vars apart W args.toList ds gs before)
    (hres : ∀ (b : Nat) (sp : Nat → Bool) (hd : Bool), DataW.TrodAll enc P W' b sp hd f.resultTypes.toList (v.resultList f.resultTypes.size) (s.fn H (ds ++ gs)).results [])
    (hargs : ∀ sp : Nat → Bool, (∀ p ∈ before, sp p.block = true) → DataW.TrodAll enc P W' 0 sp true f.params.toList args.toList (s.fn H (ds ++ gs)).args pa)
    (hvars : ∀ sp : Nat → Bool, (∀ p ∈ before, sp p.block = true) → DataW.TrodVars enc P W' sp s.vars (s.fn H (ds ++ gs)).vars pv)
    (hps : before = pa ++ pv) (hb : Below W.heap.size W W')
    (hok : ∀ (j : Nat) (t : TypeId) (r : Value), f.resultTypes[j]? = some t → (v.resultList f.resultTypes.size)[j]? = some r → Value.okWide P W' .any 0 t r) :
    s.post enc P f apart fresh handsOn again W args v W' := by
 have hlt : ∀ p ∈ before, p.block < W.heap.size := fun p hp => hW.lt p hp
 have hold : ∀ p ∈ before, (fun b => decide (b < W.heap.size)) p.block = true := fun p hp => by simpa using hlt p hp
 refine ⟨ds, gs, before, [], pa, pv, hW, hres _ _ _, hargs _ hold, hvars _ hold, World.keptBut_mono (fun p hp => ⟨hp, ?_⟩) (hb.frame (· ∈ before)), fun _ => ?_⟩
 · rw [hps, List.mem_append] at hp
   exact Or.inr hp
 · obtain ⟨_, _, _, _, _, hz, hn⟩ := hW
   refine ⟨hok, _, _, ([] ++ pa) ++ pv, ⟨[] ++ pa, pv, trodAll_append (hargs _ (fun _ _ => rfl)) (hres _ _ _), hvars _ (fun _ _ => rfl), rfl, ?_, ?_⟩, ?_⟩
   · intro b off hp
     have hin : MemPlace.cell b off ∈ before := by rw [hps]; simpa using hp
     rw [hb.frozen (hlt _ hin)]
     exact hz b off hin
   · intro ha
     have := hn ha
     rw [hps] at this
     simpa using this
   · intro p hp _
     rw [hps]
     simpa using hp
end
section
variable {H : Type} {enc : TypeId × Value → H} {P : Program} {w : World}
theorem strs_open {t e : TypeId} {n : Nat} {held : Bool} {v : Value} {y : DataW H × List MemPlace} (ht : P.underlying t = some (.slice e)) (he : P.underlying e = some .string) (hc : P.cellsOf e = 1)
    (h : DataW.trod enc P w 0 (fun _ => true) held n t [v] = some y) :
    ∃ (A : Option Addr) (c : Nat) (l : List ByteArray), v = .slice A l.length c ∧ l.length ≤ c ∧ c ≤ maxLen ∧ Strs w w.heap.size A l ∧ ∀ s ∈ l, s.size ≤ maxLen := by
 rcases open_strs ht he hc h with ⟨hv, _⟩ | ⟨a, len, cap, m, Sx, hv, _, hl, hm, hmm, _, hx⟩
 · obtain rfl : v = _ := by simpa using hv
   exact ⟨none, 0, [], rfl, Nat.le_refl _, Nat.zero_le _, ⟨by simp, by simp⟩, by simp⟩
 · obtain rfl : v = _ := by simpa using hv
   have hmm : m = cap := by simpa using hmm
   subst hmm
   refine ⟨some a, m, (List.range len).map Sx, by simp, by simpa using hl, hm, ⟨by simp, fun hn => ⟨a, rfl, ?_, fun j u hu => ?_⟩⟩, fun s hs => ?_⟩
   · have h0 : 0 < len := by simpa using hn
     have := World.block_lt_of_cell? w _ (hx 0 (by omega)).1
     rwa [block_of_add] at this
   · simp only [List.map_map, List.getElem?_map] at hu
     by_cases hj : j < len
     · simp [hj] at hu
       subst hu
       exact (hx j (by omega)).1
     · simp [hj] at hu
   · obtain ⟨i, hi, rfl⟩ := List.mem_map.1 hs
     exact (hx i (by have := List.mem_range.1 hi; omega)).2
theorem ints_open {t e : TypeId} {n : Nat} {held : Bool} {v : Value} {y : DataW H × List MemPlace} (ht : P.underlying t = some (.slice e)) (he : P.underlying e = some (.int .i64)) (hc : P.cellsOf e = 1)
    (h : DataW.trod enc P w 0 (fun _ => true) held n t [v] = some y) :
    ∃ (A : Option Addr) (c : Nat) (l : List Int), v = .slice A l.length c ∧ l.length ≤ c ∧ c ≤ maxLen ∧ Ints w w.heap.size A l ∧ ∀ z ∈ l, (Lit.int .i64 z).wf = true := by
 rcases open_ints ht he hc h with ⟨hv, _⟩ | ⟨a, len, cap, zs, hv, _, hl, hm, hmm, _, hx, hw⟩
 · obtain rfl : v = _ := by simpa using hv
   exact ⟨none, 0, [], rfl, Nat.le_refl _, Nat.zero_le _, ⟨by simp, by simp⟩, by simp⟩
 · obtain rfl : v = _ := by simpa using hv
   have hmm : zs.length = cap := by simpa using hmm
   have hll : (zs.take len).length = len := by simp; omega
   refine ⟨some a, cap, zs.take len, by rw [hll], by rw [hll]; exact hl, hm, ⟨by simp, fun hn => ⟨a, rfl, ?_, fun j u hu => ?_⟩⟩, fun z hz => hw z (List.mem_of_mem_take hz)⟩
   · have := World.block_lt_of_cell? w _ (hx 0 (by rw [hll] at hn; omega))
     rwa [block_of_add] at this
   · rw [List.getElem?_map] at hu
     by_cases hj : j < len
     · rw [List.getElem?_take_of_lt hj, List.getElem?_eq_getElem (by omega)] at hu
       obtain rfl : _ = u := by simpa using hu
       rw [hx j (by omega)]
       simp [List.getD, List.getElem?_eq_getElem (show j < zs.length by omega)]
     · rw [List.getElem?_eq_none (by simp; omega)] at hu
       cases hu
end
end Go.Proofs.YtcfogipaadhbeaaGreatDoor
