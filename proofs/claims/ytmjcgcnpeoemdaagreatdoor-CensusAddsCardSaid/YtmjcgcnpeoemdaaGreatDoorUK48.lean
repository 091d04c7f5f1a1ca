/- A part of the claim: see its last text. -/
import Derived.Test.YtmjcgcnpeoemdaaGreatDoorUK29
import Derived.Test.YtmjcgcnpeoemdaaGreatDoorUK12

set_option maxRecDepth 100000
set_option maxHeartbeats 16000000
namespace Go.Proofs.YtmjcgcnpeoemdaaGreatDoor
open Go Go.RowKit Go.Proofs
theorem placesM_add (m : Mod) (l r : List EvM) : placesM m (l ++ r) = placesM m l ++ placesGo m (placeAt m l l.length) r := by
 unfold placesM placeAt
 rw [placesGo_append, List.take_length]; rfl
theorem placesGo_count (m : Mod) : ∀ (l : List EvM) (p : PlaceM), (placesGo m p l).length = (l.filter (countsB m)).length
 | [], _ => rfl
 | e :: l, p => by
   rw [placesGo, List.filter_cons]
   split
   · rw [List.length_cons, List.length_cons, placesGo_count m l]
   · exact placesGo_count m l p
theorem placeAt_add (m : Mod) (l r : List EvM) {k : Nat} (hk : k ≤ l.length) : placeAt m (l ++ r) k = placeAt m l k := by
 unfold placeAt; rw [List.take_append_of_le_length hk]
theorem evBrks_add (m : Mod) (l r : List EvM) {i : Nat} (hi : i < l.length) : evBrks m (l ++ r) i = evBrks m l i := by
 unfold evBrks
 rw [List.getElem?_append_left hi, placeAt_add m l r (by omega)]
theorem breachesTo_add (m : Mod) (l r : List EvM) : ∀ n, n ≤ l.length → breachesTo m (l ++ r) n = breachesTo m l n
 | 0, _ => rfl
 | n + 1, hn => by
   have ih := breachesTo_add m l r n (by omega)
   unfold breachesTo at ih ⊢
   rw [List.range_succ, List.flatMap_append, List.flatMap_append, ih]
   simp only [List.flatMap_cons, List.flatMap_nil, List.append_nil]
   rw [evBrks_add m l r (by omega)]
def moreBrks (m : Mod) (l r : List EvM) : List BrM := (List.range' l.length r.length).flatMap (evBrks m (l ++ r))
theorem breachesM_add (m : Mod) (l r : List EvM) : breachesM m (l ++ r) = breachesM m l ++ moreBrks m l r := by
 have e : List.range (l ++ r).length = List.range l.length ++ List.range' l.length r.length := by
  rw [List.length_append, List.range_eq_range', List.range_eq_range', ← List.range'_append_1, Nat.zero_add]
 show (List.range (l ++ r).length).flatMap (evBrks m (l ++ r)) = _
 rw [e, List.flatMap_append]
 have := breachesTo_add m l r l.length (Nat.le_refl _)
 unfold breachesTo at this
 rw [this]
 rfl
def BrkAdd (m : Mod) (n : Nat) (all : List EvM) (b : BrM) : Prop := ∃ (i : Nat) (h : i < all.length) (k : Nat) (hk : k < m.uT.length), n ≤ i ∧ countsB m all[i] = true ∧ b = ((i : Int), m.uT[k].kind, (k : Int) + 1, m.uT[k].item)
theorem moreBrks_is {m : Mod} {l r : List EvM} {b : BrM} (h : b ∈ moreBrks m l r) : BrkAdd m l.length (l ++ r) b := by
 obtain ⟨i, hi, h⟩ := List.mem_flatMap.1 h
 have hi := List.mem_range'_1.1 hi
 have hl : i < (l ++ r).length := by rw [List.length_append]; omega
 unfold evBrks at h
 rw [List.getElem?_eq_getElem hl] at h
 dsimp only at h
 split at h
 · rename_i hc
   obtain ⟨k, hk, h⟩ := List.mem_flatMap.1 h
   have hk := List.mem_range.1 hk
   rw [List.getElem?_eq_getElem hk] at h
   dsimp only at h
   unfold brk1 at h
   split at h
   · exact ⟨i, hl, k, hk, hi.1, hc, List.mem_singleton.1 h⟩
   · cases h
 · cases h
theorem filter_take_succ {α : Type} (p : α → Bool) (l : List α) {k : Nat} (hk : k < l.length) : ((l.take (k + 1)).filter p).length = ((l.take k).filter p).length + (if p l[k] = true then 1 else 0) := by
 rw [List.take_succ_eq_append_getElem hk, List.filter_append, List.length_append]
 cases e : p l[k] <;> simp [e]
end Go.Proofs.YtmjcgcnpeoemdaaGreatDoor
