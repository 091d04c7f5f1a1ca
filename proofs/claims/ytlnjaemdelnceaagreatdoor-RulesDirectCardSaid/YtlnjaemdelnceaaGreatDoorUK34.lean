/- A part of the claim: see its last text. -/
import Derived.Test.YtlnjaemdelnceaaGreatDoorUK30

set_option maxRecDepth 100000
set_option maxHeartbeats 16000000
namespace Go.Proofs.YtlnjaemdelnceaaGreatDoor
open Go
def weakR (r : RuleM) (k : Int) : RuleM := ⟨r.kind, r.item, r.other, if r.kind = 1 then r.n - k else if r.kind = 2 then r.n + k else r.n, r.by_, r.always, r.machines ++ [k]⟩
theorem crowded_iff (m : Mod) (r : RuleM) (p : PlaceM) : crowdedI m r p = 0 ↔ ∀ n ∈ spreadP m p r.item r.by_, n ≤ r.n := by
 unfold crowdedI
 cases e : (spreadP m p r.item r.by_).findIdx? (fun n => decide (r.n < n)) with
 | none =>
   rw [List.findIdx?_eq_none_iff] at e
   simp only [true_iff]
   intro n hn
   have := e n hn
   simpa using this
 | some i =>
   rw [List.findIdx?_eq_some_iff_getElem] at e
   obtain ⟨hi, hp, _⟩ := e
   have hp := of_decide_eq_true hp
   refine ⟨fun h => ?_, fun h => ?_⟩
   · dsimp only at h; omega
   · have := h _ (List.getElem_mem hi); omega
theorem elsewhere_none (r : RuleM) (p : PlaceM) : elsewhereI r p = none ↔ ∀ u ∈ unitsP p r.item, u.1 ∈ r.machines := by
 unfold elsewhereI
 rw [List.find?_eq_none]
 simp
theorem holds_0 {m : Mod} {r : RuleM} {p : PlaceM} {f : Int × Int} (h : r.kind = 0) : holdsR m r p f = decide ((machinesP p r.item 0).length < 2 * (survP m p f r.item).length) := if_pos h
theorem holds_1 {m : Mod} {r : RuleM} {p : PlaceM} {f : Int × Int} (h : r.kind = 1) : holdsR m r p f = decide (r.n ≤ (survP m p (if r.always then (0, 0) else f) r.item).length) := (if_neg (by omega)).trans (if_pos h)
theorem holds_2 {m : Mod} {r : RuleM} {p : PlaceM} {f : Int × Int} (h : r.kind = 2) : holdsR m r p f = decide (crowdedI m r p = 0) := (if_neg (by omega)).trans ((if_neg (by omega)).trans (if_pos h))
theorem holds_3 {m : Mod} {r : RuleM} {p : PlaceM} {f : Int × Int} (h : r.kind = 3) : holdsR m r p f = decide (elsewhereI r p = none) := (if_neg (by omega)).trans ((if_neg (by omega)).trans ((if_neg (by omega)).trans (if_pos h)))
theorem holds_o {m : Mod} {r : RuleM} {p : PlaceM} {f : Int × Int} (h : ¬ (0 ≤ r.kind ∧ r.kind < 4)) : holdsR m r p f = true := (if_neg (by omega)).trans ((if_neg (by omega)).trans ((if_neg (by omega)).trans (if_neg (by omega))))
theorem kind_ways (k : Int) : k = 0 ∨ k = 1 ∨ k = 2 ∨ k = 3 ∨ ¬ (0 ≤ k ∧ k < 4) := by omega
theorem weak_holds {m : Mod} {r : RuleM} {p : PlaceM} {f : Int × Int} {k : Int} (hk : 0 ≤ k) (h : holdsR m r p f = true) : holdsR m (weakR r k) p f = true := by
 rcases kind_ways r.kind with e | e | e | e | e
 · rw [holds_0 e] at h
   rw [holds_0 (show (weakR r k).kind = 0 from e)]
   exact h
 · rw [holds_1 e] at h
   rw [holds_1 (show (weakR r k).kind = 1 from e)]
   have hn : (weakR r k).n = r.n - k := if_pos e
   have h := of_decide_eq_true h
   rw [hn]
   exact decide_eq_true (show r.n - k ≤ ((survP m p (if r.always then (0, 0) else f) r.item).length : Int) by omega)
 · rw [holds_2 e] at h
   rw [holds_2 (show (weakR r k).kind = 2 from e)]
   have hn : (weakR r k).n = r.n + k := (if_neg (by omega)).trans (if_pos e)
   refine decide_eq_true ((crowded_iff m (weakR r k) p).2 fun n hn2 => ?_)
   have := (crowded_iff m r p).1 (of_decide_eq_true h) n hn2
   rw [hn]; omega
 · rw [holds_3 e] at h
   rw [holds_3 (show (weakR r k).kind = 3 from e)]
   exact decide_eq_true ((elsewhere_none (weakR r k) p).2 fun u hu => List.mem_append_left _ ((elsewhere_none r p).1 (of_decide_eq_true h) u hu))
 · exact holds_o (show ¬ (0 ≤ (weakR r k).kind ∧ (weakR r k).kind < 4) from e)
def coversB (m : Mod) (f g : Int × Int) : Bool := (List.range m.mT.length).all fun k => !(hitsB m g ((k : Int) + 1) && !hitsB m f ((k : Int) + 1))
theorem coversB_iff {m : Mod} {f g : Int × Int} : coversB m f g = true ↔ ∀ k, k < m.mT.length → (hitsB m g ((k : Int) + 1) && !hitsB m f ((k : Int) + 1)) = false := by
 unfold coversB
 simp only [List.all_eq_true, List.mem_range, Bool.not_eq_true']
def unitOk (m : Mod) (kd : Int) (u : UnitM) (pre : List UnitM) : Bool :=
 exI u.1 m.mT.length && (match pre.getLast? with | some v => decide (v.1 < u.1) | none => true) && (decide (u.2 = 0) || decide (u.2 = 1) || (decide (u.2 = 2) && decide (kd = 2)))
def kindAt (m : Mod) (i : Nat) : Int := (m.iT[i]?.map (·.kind)).getD 0
def validPl (m : Mod) (p : PlaceM) : Bool := validM m && decide (p.length = m.iT.length) && decide (∀ i (h : i < p.length), soundB (unitOk m (kindAt m i)) p[i] = true)
theorem validPl_iff {m : Mod} {p : PlaceM} : validPl m p = true ↔ validM m = true ∧ p.length = m.iT.length ∧ ∀ i (h : i < p.length), soundB (unitOk m (kindAt m i)) p[i] = true := by
 simp only [validPl, Bool.and_eq_true, decide_eq_true_eq, and_assoc]
theorem units_cases (p : PlaceM) (item : Int) : unitsP p item = [] ∨ unitsP p item ∈ p := by
 unfold unitsP
 split
 · rename_i h
   simp only [exI, Bool.and_eq_true, decide_eq_true_eq] at h
   have hl : (item - 1).toNat < p.length := by omega
   rw [List.getD_eq_getElem?_getD, List.getElem?_eq_getElem hl]
   exact .inr (List.getElem_mem hl)
 · exact .inl rfl
theorem valid_unit {m : Mod} {p : PlaceM} (h : validPl m p = true) {item : Int} {u : UnitM} (hu : u ∈ unitsP p item) : 1 ≤ u.1 ∧ u.1 ≤ m.mT.length := by
 obtain ⟨_, _, h3⟩ := validPl_iff.1 h
 rcases units_cases p item with e | e
 · rw [e] at hu; cases hu
 · obtain ⟨i, hi, he⟩ := List.getElem_of_mem e
   have h4 := h3 i hi
   rw [he] at h4
   obtain ⟨j, hj, rfl⟩ := List.getElem_of_mem hu
   have := soundB_iff.1 h4 j hj
   simp only [unitOk, exI, Bool.and_eq_true, decide_eq_true_eq] at this
   exact this.1.1
theorem valid_mach {m : Mod} {p : PlaceM} (h : validPl m p = true) {item st n : Int} (hn : n ∈ machinesP p item st) : 1 ≤ n ∧ n ≤ m.mT.length := by
 unfold machinesP at hn
 obtain ⟨u, hu, rfl⟩ := List.mem_map.1 hn
 exact valid_unit h (List.mem_filter.1 hu).1
theorem filter_le {α : Type} {f g : α → Bool} : ∀ {l : List α}, (∀ x ∈ l, f x = true → g x = true) → (l.filter f).length ≤ (l.filter g).length
 | [], _ => by simp
 | a :: l, h => by
   have ih := filter_le (l := l) fun x hx => h x (List.mem_cons_of_mem _ hx)
   have ha := h a (List.mem_cons_self ..)
   rw [List.filter_cons, List.filter_cons]
   cases e : f a
   · cases g a <;> simp <;> omega
   · rw [ha e]; simp; omega
theorem surv_covers {m : Mod} {p : PlaceM} {f g : Int × Int} (hp : validPl m p = true) (hc : coversB m f g = true) (item : Int) : (survP m p f item).length ≤ (survP m p g item).length := by
 unfold survP
 refine filter_le fun n hn h => ?_
 obtain ⟨h1, h2⟩ := valid_mach hp hn
 have := coversB_iff.1 hc (n - 1).toNat (by omega)
 rw [show (((n - 1).toNat : Nat) : Int) + 1 = n by omega] at this
 rw [h, Bool.and_true] at this
 rw [this]; rfl
theorem cover_holds {m : Mod} {r : RuleM} {p : PlaceM} {f g : Int × Int} (hp : validPl m p = true) (hc : coversB m f g = true) (h : holdsR m r p f = true) : holdsR m r p g = true := by
 rcases kind_ways r.kind with e | e | e | e | e
 · rw [holds_0 e] at h ⊢
   have := of_decide_eq_true h
   have := surv_covers hp hc r.item
   exact decide_eq_true (by omega)
 · rw [holds_1 e] at h ⊢
   cases ha : r.always
   · rw [ha] at h
     have := of_decide_eq_true h
     have := surv_covers hp hc r.item
     simp only [Bool.false_eq_true, if_false] at *
     exact decide_eq_true (by omega)
   · rw [ha] at h
     simpa using h
 · rw [holds_2 e] at h ⊢; exact h
 · rw [holds_3 e] at h ⊢; exact h
 · exact holds_o e
theorem zero_fails (m : Mod) (r : RuleM) : ((0, 0) : Int × Int) ∈ failuresR m r := by
 unfold failuresR
 split
 · exact List.mem_cons_self ..
 · exact List.mem_singleton.2 rfl
def VioSays (m : Mod) (p : PlaceM) (v : VioM) : Prop := ∃ (i : Nat) (hi : i < m.uT.length), v.rule = (i : Int) + 1 ∧ v.kind = m.uT[i].kind ∧ v.item = m.uT[i].item ∧ holdsR m m.uT[i] p (v.by_, v.num) = false ∧ v.at_ = whereI m m.uT[i] p
theorem inst_says {m : Mod} {p : PlaceM} {time : Int} {v : VioM} (h : v ∈ instantM m p time) : VioSays m p v := by
 unfold instantM instTo at h
 obtain ⟨i, hi, h⟩ := List.mem_flatMap.1 h
 have hi := List.mem_range.1 hi
 rw [List.getElem?_eq_getElem hi] at h
 dsimp only at h
 unfold instF at h
 obtain ⟨f, hf, h⟩ := List.mem_flatMap.1 h
 unfold vioOf at h
 split at h
 · cases h
 · rename_i hh
   rw [List.mem_singleton.1 h]
   exact ⟨i, hi, rfl, rfl, rfl, by simpa using hh, rfl⟩
theorem says_spread {m : Mod} {p : PlaceM} {v : VioM} {r : RuleM} {f : Int × Int} (hk : r.kind = 2) (h : holdsR m r p f = false) (e : v.at_ = whereI m r p) :
    ∃ d : Nat, v.at_ = (d : Int) + 1 ∧ ∃ hd : d < (spreadP m p r.item r.by_).length, r.n < (spreadP m p r.item r.by_)[d] := by
 rw [holds_2 hk] at h
 have h := of_decide_eq_false h
 rw [show whereI m r p = crowdedI m r p by unfold whereI; rw [if_pos hk]] at e
 unfold crowdedI at e h
 cases e2 : (spreadP m p r.item r.by_).findIdx? (fun n => decide (r.n < n)) with
 | none => rw [e2] at h; exact absurd rfl h
 | some i =>
   rw [e2] at e
   rw [List.findIdx?_eq_some_iff_getElem] at e2
   obtain ⟨hi, hp, _⟩ := e2
   exact ⟨i, e, hi, of_decide_eq_true hp⟩
theorem says_only {m : Mod} {p : PlaceM} {v : VioM} {r : RuleM} {f : Int × Int} (hk : r.kind = 3) (h : holdsR m r p f = false) (e : v.at_ = whereI m r p) :
    (∃ u ∈ unitsP p r.item, u.1 = v.at_) ∧ v.at_ ∉ r.machines := by
 rw [holds_3 hk] at h
 have h := of_decide_eq_false h
 rw [show whereI m r p = (elsewhereI r p).getD 0 by unfold whereI; rw [if_neg (by omega), if_pos hk]] at e
 cases e2 : elsewhereI r p with
 | none => exact absurd e2 h
 | some n =>
   rw [e2] at e
   unfold elsewhereI at e2
   have h1 := List.find?_some e2
   have h2 := List.mem_of_find?_eq_some e2
   obtain ⟨u, hu, e3⟩ := List.mem_map.1 h2
   have e4 : v.at_ = n := e
   rw [e4]
   exact ⟨⟨u, hu, e3⟩, by simpa using h1⟩
theorem vioOf_len2 (m : Mod) (p : PlaceM) (time : Int) (i : Nat) (r : RuleM) (f : Int × Int) : (vioOf m p time i r f).length = if holdsR m r p f then 0 else 1 := by
 unfold vioOf; split <;> rfl
end Go.Proofs.YtlnjaemdelnceaaGreatDoor
