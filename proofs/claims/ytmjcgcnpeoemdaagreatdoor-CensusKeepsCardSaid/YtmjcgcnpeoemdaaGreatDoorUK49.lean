/- A part of the claim: see its last text. -/
import Derived.Test.YtmjcgcnpeoemdaaGreatDoorUK29
import Derived.Test.YtmjcgcnpeoemdaaGreatDoorUK12
import Derived.Test.YtmjcgcnpeoemdaaGreatDoorUK06

set_option maxRecDepth 100000
set_option maxHeartbeats 16000000
namespace Go.Proofs.YtmjcgcnpeoemdaaGreatDoor
open Go Go.RowKit Go.Proofs
def keepRule (a : Nat) (n : Int) : RuleM := { kind := 1, item := (a : Int) + 1, other := 0, n := n, by_ := 0, always := true, machines := [] }
def keepM (m : Mod) (a : Nat) (n : Int) : Mod := ⟨m.sT, m.fT, m.rT, m.mT, m.lT, m.iT, m.dT, m.oT, m.vT, m.aT, [keepRule a n]⟩
theorem keep_valid {m : Mod} (hv : validM m = true) {a : Nat} (ha : a < m.iT.length) {n : Int} (h0 : 0 ≤ n) (h1 : n ≤ 3) : validM (keepM m a n) = true := by
 have hr : ruleOk (keepM m a n) (keepRule a n) = true := by
  simp only [ruleOk, keepM, keepRule]
  simp [exI, wiI, noList]
  omega
 have e1 : siteB (keepM m a n) = siteB m := rfl
 have e2 : namesB (keepM m a n) = namesB m := rfl
 have e3 : (keepM m a n).iT.all (itemOk (keepM m a n)) = m.iT.all (itemOk m) := rfl
 have e4 : sizesB (keepM m a n) = sizesB m := rfl
 have e5 : (keepM m a n).uT.all (ruleOk (keepM m a n)) = true := by
  show [keepRule a n].all (ruleOk (keepM m a n)) = true
  simp [hr]
 have e6 : decide ((keepM m a n).uT.length ≤ 40) = true := by simp [keepM]
 have e7 : decide ((keepM m a n).iT.length ≤ 8) = decide (m.iT.length ≤ 8) := rfl
 unfold validM at hv ⊢
 rw [e1, e2, e3, e4, e5, e6, e7]
 simp only [Bool.and_eq_true] at hv ⊢
 exact ⟨⟨⟨⟨⟨⟨hv.1.1.1.1.1.1, hv.1.1.1.1.1.2⟩, trivial⟩, hv.1.1.1.2⟩, hv.1.1.2⟩, trivial⟩, hv.2⟩
theorem surv_none (m : Mod) (p : PlaceM) (item : Int) : survP m p (0, 0) item = machinesP p item 0 := by
 unfold survP
 rw [List.filter_eq_self]
 intro k _
 simp [hitsB]
theorem keep_holds (m : Mod) (a : Nat) (n : Int) (p : PlaceM) : holdsAll m (keepRule a n) p = decide (n ≤ ((machinesP p ((a : Int) + 1) 0).length : Int)) := by
 simp [holdsAll, failuresR, keepRule, holdsR, surv_none]
theorem init_ready {m : Mod} {a : Nat} (ha : a < m.iT.length) : (machinesP (initP m) ((a : Int) + 1) 0).length = m.iT[a].on.length := by
 unfold machinesP
 rw [unitsP_yes (by simpa [initP] using ha), List.length_map]
 simp [initP, List.filter_map, Function.comp_def]
def keepB (m : Mod) (a : Nat) (n : Int) (l : List EvM) (e : Nat) : Bool :=
 (match l[e]? with | some x => countsB m x | none => false) && decide (((machinesP (placeAt m l (e + 1)) ((a : Int) + 1) 0).length : Int) < n) && !decide (kindI m ((a : Int) + 1) = 2) && decide (n ≤ ((machinesP (initP m) ((a : Int) + 1) 0).length : Int))
def keepTo (m : Mod) (a : Nat) (n : Int) (l : List EvM) (e : Nat) : List Int := (List.range e).flatMap fun k => if keepB m a n l k then [(k : Int)] else []
theorem keepTo_succ (m : Mod) (a : Nat) (n : Int) (l : List EvM) (e : Nat) : keepTo m a n l (e + 1) = keepTo m a n l e ++ if keepB m a n l e then [(e : Int)] else [] := by simp [keepTo, List.range_succ]
theorem keepTo_len (m : Mod) (a : Nat) (n : Int) (l : List EvM) (e : Nat) : (keepTo m a n l e).length ≤ e := by
 induction e with
 | zero => simp [keepTo]
 | succ e ih => rw [keepTo_succ, List.length_append]; split <;> simp <;> omega
theorem keep_breaks {m : Mod} {a : Nat} {n : Int} (hr : m.uT = [keepRule a n]) (l : List EvM) : ∀ k, k ≤ l.length → breachesTo m l k = (keepTo m a n l k).map fun e => (e, 1, 1, (a : Int) + 1)
 | 0, _ => rfl
 | k + 1, hk => by
   have hlt : k < l.length := by omega
   rw [breachesTo_succ m l hlt, keepTo_succ, List.map_append, keep_breaks hr l k (by omega)]
   congr 1
   have hone : brksTo m (placeAt m l (k + 1)) k m.uT.length = brk1 m (placeAt m l (k + 1)) k 0 (keepRule a n) := by
    rw [hr]
    simp [brksTo, hr]
   rw [hone]
   have hw : watchedB m (keepRule a n) = (!decide (kindI m ((a : Int) + 1) = 2) && decide (n ≤ ((machinesP (initP m) ((a : Int) + 1) 0).length : Int))) := by
    unfold watchedB
    rw [keep_holds]
    simp [keepRule]
    rfl
   unfold brk1 keepB
   rw [hw, keep_holds, List.getElem?_eq_getElem hlt]
   simp only
   by_cases hc : countsB m l[k] = true
   · by_cases hj : kindI m ((a : Int) + 1) = 2
     · simp [hj]
     · by_cases h2 : n ≤ ((machinesP (initP m) ((a : Int) + 1) 0).length : Int)
       · by_cases h3 : ((machinesP (placeAt m l (k + 1)) ((a : Int) + 1) 0).length : Int) < n
         · simp [hc, hj, h2, h3, keepRule, Int.not_le.2 h3]
         · simp [hc, hj, h2, h3, Int.not_lt.1 h3]
       · simp [hj, h2]
   · simp [hc]
theorem placesM_pre (m : Mod) (l : List EvM) (k : Nat) : ∃ rest, placesM m l = placesM m (l.take k) ++ rest := by
 refine ⟨placesGo m ((l.take k).foldl (stepP m) (initP m)) (l.drop k), ?_⟩
 conv => lhs; rw [← List.take_append_drop k l]
 show _ :: _ = (_ :: _) ++ _
 rw [placesGo_append]; rfl
theorem places_at {m : Mod} {l : List EvM} {e : Nat} (he : e < l.length) (hc : countsB m l[e] = true) : ∃ hj : (placesM m (l.take e)).length < (placesM m l).length, (placesM m l)[(placesM m (l.take e)).length] = placeAt m l (e + 1) := by
 obtain ⟨rest, hr⟩ := placesM_pre m l (e + 1)
 rw [placesM_succ he, if_pos hc] at hr
 have hlen : (placesM m (l.take e)).length < (placesM m l).length := by rw [hr]; simp
 refine ⟨hlen, ?_⟩
 have : (placesM m l)[(placesM m (l.take e)).length]? = some (placeAt m l (e + 1)) := by
  rw [hr, List.append_assoc, List.getElem?_append_right (Nat.le_refl _)]
  simp
 rw [List.getElem?_eq_getElem hlen] at this
 exact Option.some.inj this
end Go.Proofs.YtmjcgcnpeoemdaaGreatDoor
