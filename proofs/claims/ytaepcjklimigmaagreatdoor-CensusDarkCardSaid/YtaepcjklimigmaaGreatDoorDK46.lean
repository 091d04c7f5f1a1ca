/- A part of the claim: see its last text. -/
import Derived.Test.YtaepcjklimigmaaGreatDoorDK37

set_option maxRecDepth 100000
set_option maxHeartbeats 16000000
namespace Go.Proofs.YtaepcjklimigmaaGreatDoor
open Go Go.RowKit Go.Proofs
def evU (i : Nat) (k : Int) : EvM := { kind := 3, mach := k, group := 0, old := [], hitem := (i : Int) + 1, hstate := 0, gone := true, outcome := 0 }
def evG (i : Nat) (o : List Int) : EvM := { kind := 2, mach := 0, group := (i : Int) + 1, old := o, hitem := 0, hstate := 0, gone := false, outcome := 0 }
def evE : EvM := { kind := 5, mach := 0, group := 0, old := [], hitem := 0, hstate := 0, gone := false, outcome := 0 }
def inD (m : Mod) (k : Int) : Bool := decide (domI m 4 k = m.dT)
def oldsD (m : Mod) (l : List Int) : List Int := l.filter fun k => !inD m k
def unitsD (m : Mod) (i : Nat) (x : ItemM) (l : List Int) : List EvM := if x.kind = 0 then [] else (l.filter (inD m)).map (evU i)
def lastD (m : Mod) (i : Nat) (x : ItemM) : List EvM := if x.kind = 0 then [evG i (oldsD m x.on)] else []
def itemD (m : Mod) (i : Nat) : List EvM := match m.iT[i]? with | some x => unitsD m i x x.on ++ lastD m i x | none => []
def evsD (m : Mod) (n : Nat) : List EvM := (List.range n).flatMap (itemD m)
def cntD (m : Mod) (n : Nat) : Nat := ((List.range n).flatMap fun i => match m.iT[i]? with | some x => x.on.filter (inD m) | none => []).length
theorem evsD_succ (m : Mod) (n : Nat) : evsD m (n + 1) = evsD m n ++ itemD m n := by simp [evsD, List.range_succ]
theorem itemD_at {m : Mod} {n : Nat} (h : n < m.iT.length) : itemD m n = unitsD m n m.iT[n] m.iT[n].on ++ lastD m n m.iT[n] := by simp [itemD, h]
theorem cntD_succ {m : Mod} {n : Nat} (h : n < m.iT.length) : cntD m (n + 1) = cntD m n + (m.iT[n].on.filter (inD m)).length := by simp [cntD, List.range_succ, h]
theorem unitsD_succ (m : Mod) (i : Nat) (x : ItemM) {k : Nat} (h : k < x.on.length) : unitsD m i x (x.on.take (k + 1)) = unitsD m i x (x.on.take k) ++ (if x.kind ≠ 0 ∧ inD m x.on[k] = true then [evU i x.on[k]] else []) := by
 unfold unitsD
 split
 · simp [*]
 · rename_i h0
   rw [List.take_succ_eq_append_getElem h, List.filter_append, List.map_append]
   cases e : inD m x.on[k] <;> simp [h0, e]
theorem oldsD_succ (m : Mod) (l : List Int) {k : Nat} (h : k < l.length) : oldsD m (l.take (k + 1)) = oldsD m (l.take k) ++ (if inD m l[k] = true then [] else [l[k]]) := by
 unfold oldsD
 rw [List.take_succ_eq_append_getElem h, List.filter_append]
 cases e : inD m l[k] <;> simp [e]
theorem unitsP_other (p : PlaceM) (a b : Nat) (l : List UnitM) (h : a ≠ b) : unitsP (withP p ((a : Int) + 1) l) ((b : Int) + 1) = unitsP p ((b : Int) + 1) := by
 unfold unitsP
 rw [withP_len]
 unfold withP
 split
 · split
   · rename_i h1 h2
     simp only [exI, Bool.and_eq_true, decide_eq_true_eq] at h1 h2
     rw [List.getD_eq_getElem?_getD, List.getD_eq_getElem?_getD, List.getElem?_set_ne (by omega)]
   · rfl
 · rfl
theorem unitsP_same {p : PlaceM} {a : Nat} (l : List UnitM) (h : a < p.length) : unitsP (withP p ((a : Int) + 1) l) ((a : Int) + 1) = l := by
 have e : exI ((a : Int) + 1) p.length = true := by simp [exI]; omega
 unfold unitsP
 rw [withP_len, if_pos e]
 unfold withP
 rw [if_pos e, List.getD_eq_getElem?_getD, List.getElem?_set]
 have : ((a : Int) + 1 - 1).toNat = a := by omega
 rw [this, if_pos rfl, if_pos h]
 rfl
theorem mem_dropU {n : Int} {l : List UnitM} (hs : SortU n l) {mc : Int} {u : UnitM} (h : u ∈ dropU l mc) : u ∈ l ∧ u.1 ≠ mc := by
 unfold dropU at h
 split at h
 · rename_i hf
   unfold findU at hf
   rw [List.findIdx?_eq_none_iff] at hf
   exact ⟨h, by simpa using hf u h⟩
 · rename_i i hf
   unfold findU at hf
   rw [List.findIdx?_eq_some_iff_getElem] at hf
   obtain ⟨hi, hp, _⟩ := hf
   have hp : l[i].1 = mc := by simpa using hp
   have hpw := (List.pairwise_iff_getElem.1 hs.1)
   rcases List.mem_append.1 h with h1 | h1
   · obtain ⟨j, hj, rfl⟩ := List.getElem_of_mem h1
     rw [List.getElem_take]
     simp at hj
     have := hpw j i (by omega) hi (by omega)
     exact ⟨List.getElem_mem _, by omega⟩
   · obtain ⟨j, hj, rfl⟩ := List.getElem_of_mem h1
     rw [List.getElem_drop]
     simp at hj
     have := hpw i (i + 1 + j) hi (by omega) (by omega)
     exact ⟨List.getElem_mem _, by omega⟩
theorem mem_putU {l : List UnitM} {mc st : Int} {u : UnitM} (h : u ∈ putU l mc st) : u ∈ l ∨ u.1 = mc := by
 unfold putU at h
 split at h
 · rcases List.mem_or_eq_of_mem_set h with h1 | h1
   · exact .inl h1
   · exact .inr (by rw [h1])
 · rcases List.mem_append.1 h with h1 | h1
   · exact .inl (List.mem_of_mem_take h1)
   · rcases List.mem_cons.1 h1 with h2 | h2
     · exact .inr (by rw [h2])
     · exact .inl (List.mem_of_mem_drop h2)
theorem unitsP_none {p : PlaceM} {a : Nat} (h : ¬ a < p.length) : unitsP p ((a : Int) + 1) = [] := unitsP_no (by simp [exI]; omega)
theorem mem_dropP {n : Int} {p : PlaceM} (hs : SortP n p) {a : Nat} {mc : Int} {u : UnitM} (h : u ∈ unitsP (dropP p ((a : Int) + 1) mc) ((a : Int) + 1)) : u ∈ unitsP p ((a : Int) + 1) ∧ u.1 ≠ mc := by
 unfold dropP at h
 by_cases ha : a < p.length
 · rw [unitsP_same _ ha] at h
   exact mem_dropU (hs.units _) h
 · rw [unitsP_none (by rw [withP_len]; exact ha)] at h
   cases h
theorem mem_putP {p : PlaceM} {a : Nat} {mc st : Int} {u : UnitM} (h : u ∈ unitsP (putP p ((a : Int) + 1) mc st) ((a : Int) + 1)) : u ∈ unitsP p ((a : Int) + 1) ∨ u.1 = mc := by
 unfold putP at h
 by_cases ha : a < p.length
 · rw [unitsP_same _ ha] at h
   exact mem_putU h
 · rw [unitsP_none (by rw [withP_len]; exact ha)] at h
   cases h
theorem mem_dropAll {n : Int} {p : PlaceM} (hs : SortP n p) (a : Nat) : ∀ k {u : UnitM}, u ∈ unitsP (dropAll p ((a : Int) + 1) k) ((a : Int) + 1) → u ∈ unitsP p ((a : Int) + 1) ∧ ∀ j : Nat, j < k → u.1 ≠ (j : Int) + 1
 | 0, _, h => ⟨h, fun j hj => by omega⟩
 | k + 1, u, h => by
   rw [← dropAll_succ] at h
   obtain ⟨h1, h2⟩ := mem_dropP (sort_dropAll hs _ k) h
   obtain ⟨h3, h4⟩ := mem_dropAll hs a k h1
   exact ⟨h3, fun j hj => by
    by_cases e : j = k
    · subst e; exact h2
    · exact h4 j (by omega)⟩
theorem mem_putOlds (m : Mod) (a : Nat) : ∀ (l : List Int) {p : PlaceM} {u : UnitM}, u ∈ unitsP (l.foldl (putOld m ((a : Int) + 1)) p) ((a : Int) + 1) → u ∈ unitsP p ((a : Int) + 1) ∨ ∃ k ∈ l, u.1 = Int.tmod k 100
 | [], _, _, h => .inl h
 | x :: l, p, u, h => by
   rcases mem_putOlds m a l h with h1 | ⟨k, hk, h1⟩
   · unfold putOld at h1
     split at h1
     · rcases mem_putP h1 with h2 | h2
       · exact .inl h2
       · exact .inr ⟨x, by simp, h2⟩
     · exact .inl h1
   · exact .inr ⟨k, by simp [hk], h1⟩
theorem other_dropP (p : PlaceM) (a b : Nat) (mc : Int) (h : a ≠ b) : unitsP (dropP p ((a : Int) + 1) mc) ((b : Int) + 1) = unitsP p ((b : Int) + 1) := unitsP_other _ _ _ _ h
theorem other_dropAll (p : PlaceM) (a b : Nat) (h : a ≠ b) : ∀ k, unitsP (dropAll p ((a : Int) + 1) k) ((b : Int) + 1) = unitsP p ((b : Int) + 1)
 | 0 => rfl
 | k + 1 => by rw [← dropAll_succ, other_dropP _ _ _ _ h, other_dropAll p a b h k]
theorem other_putOlds (m : Mod) (a b : Nat) (h : a ≠ b) : ∀ (l : List Int) (p : PlaceM), unitsP (l.foldl (putOld m ((a : Int) + 1)) p) ((b : Int) + 1) = unitsP p ((b : Int) + 1)
 | [], _ => rfl
 | x :: l, p => by
   rw [List.foldl_cons, other_putOlds m a b h l]
   unfold putOld
   split
   · exact unitsP_other _ _ _ _ h
   · rfl
theorem on_range {m : Mod} (hv : validM m = true) {x : ItemM} (hx : x ∈ m.iT) {k : Int} (hk : k ∈ x.on) : 1 ≤ k ∧ k ≤ m.mT.length := by
 have hi := ok_item hv hx
 unfold itemOk at hi
 simp only [Bool.and_eq_true] at hi
 exact (inc_sort hi.1.1.1.1).2 k hk
theorem step_evU {m : Mod} (hv : validM m = true) {i : Nat} (hi : i < m.iT.length) (h0 : m.iT[i].kind ≠ 0) {k : Int} (hk : k ∈ m.iT[i].on) (p : PlaceM) : stepP m p (evU i k) = dropP p ((i : Int) + 1) k := by
 have hr := on_range hv (List.getElem_mem hi) hk
 have hc : countsB m (evU i k) = true := by
  rw [countsB_3 rfl]
  have e1 : exI k m.mT.length = true := by simp [exI]; omega
  show ((decide (kindI m ((i : Int) + 1) = 1) || decide (kindI m ((i : Int) + 1) = 2)) && exI k m.mT.length) = true
  rw [kindI_yes hi, e1]
  rcases valid_kind hv (List.getElem_mem hi) with h | h | h
  · exact absurd h h0
  · simp [h]
  · simp [h]
 unfold stepP
 rw [if_pos hc]
 unfold afterP
 rw [if_neg (by show ¬ (3 : Int) = 2; decide), if_pos (.inl rfl)]
 rfl
theorem step_evG {m : Mod} {i : Nat} (hi : i < m.iT.length) (h0 : m.iT[i].kind = 0) (o : List Int) (p : PlaceM) : stepP m p (evG i o) = o.foldl (putOld m ((i : Int) + 1)) (dropAll p ((i : Int) + 1) m.mT.length) := by
 have hc : countsB m (evG i o) = true := by
  rw [countsB_2 rfl]
  show decide (kindI m ((i : Int) + 1) = 0) = true
  rw [kindI_yes hi, h0]; rfl
 unfold stepP
 rw [if_pos hc]
 unfold afterP
 rw [if_pos (show (evG i o).kind = 2 from rfl)]
 rfl
structure DkA (m : Mod) (n : Nat) (p : PlaceM) : Prop where
 sort : SortP m.mT.length p
 clean : ∀ i, i < n → ∀ u ∈ unitsP p ((i : Int) + 1), inD m u.1 = false
 rest : ∀ j, n ≤ j → unitsP p ((j : Int) + 1) = unitsP (initP m) ((j : Int) + 1)
theorem SortP.fold {m : Mod} : ∀ (l : List EvM) {p : PlaceM}, SortP m.mT.length p → SortP m.mT.length (l.foldl (stepP m) p)
 | [], _, h => h
 | e :: l, _, h => SortP.fold l (h.step e)
theorem fold_units {m : Mod} (hv : validM m = true) {i : Nat} (hi : i < m.iT.length) (h0 : m.iT[i].kind ≠ 0) : ∀ (l : List Int), (∀ k ∈ l, k ∈ m.iT[i].on) → ∀ (p : PlaceM), SortP m.mT.length p →
    (∀ u ∈ unitsP ((l.map (evU i)).foldl (stepP m) p) ((i : Int) + 1), u ∈ unitsP p ((i : Int) + 1) ∧ u.1 ∉ l) ∧ (∀ j, j ≠ i → unitsP ((l.map (evU i)).foldl (stepP m) p) ((j : Int) + 1) = unitsP p ((j : Int) + 1))
 | [], _, _, _ => ⟨fun u hu => ⟨hu, by simp⟩, fun _ _ => rfl⟩
 | k :: l, hl, p, hs => by
   have hs2 := hs.step (evU i k)
   obtain ⟨h1, h2⟩ := fold_units hv hi h0 l (fun k hk => hl k (by simp [hk])) _ hs2
   rw [List.map_cons, List.foldl_cons]
   rw [step_evU hv hi h0 (hl k (by simp))] at h1 h2 ⊢
   refine ⟨fun u hu => ?_, fun j hj => by rw [h2 j hj, other_dropP _ _ _ _ (Ne.symm hj)]⟩
   obtain ⟨h3, h4⟩ := h1 u hu
   obtain ⟨h5, h6⟩ := mem_dropP hs h3
   exact ⟨h5, by simp [h6, h4]⟩
theorem unitsP_init {m : Mod} {i : Nat} (hi : i < m.iT.length) : unitsP (initP m) ((i : Int) + 1) = m.iT[i].on.map fun k => (k, 0) := by
 rw [unitsP_yes (by simpa [initP] using hi)]; simp [initP]
theorem DkA.next {m : Mod} (hv : validM m = true) {n : Nat} (hn : n < m.iT.length) {p : PlaceM} (h : DkA m n p) : DkA m (n + 1) ((itemD m n).foldl (stepP m) p) := by
 have hs := SortP.fold (itemD m n) h.sort
 rw [itemD_at hn] at hs ⊢
 have hr0 := h.rest n (Nat.le_refl _)
 rw [unitsP_init hn] at hr0
 unfold unitsD lastD at hs ⊢
 by_cases h0 : m.iT[n].kind = 0
 · rw [if_pos h0, if_pos h0, List.nil_append] at hs ⊢
   rw [List.foldl_cons, List.foldl_nil, step_evG hn h0] at hs ⊢
   refine ⟨hs, fun i hi u hu => ?_, fun j hj => ?_⟩
   · by_cases e : i = n
     · subst e
       rcases mem_putOlds m i _ hu with h1 | ⟨k, hk, h1⟩
       · obtain ⟨h2, h3⟩ := mem_dropAll h.sort i _ h1
         have := (h.sort.units ((i : Int) + 1)).2 u h2
         exact absurd (by omega) (h3 (u.1 - 1).toNat (by omega))
       · unfold oldsD at hk
         rw [List.mem_filter] at hk
         have hb := on_range hv (List.getElem_mem hn) hk.1
         have s := (valid_sizes hv).2.2.1
         have e2 : Int.tmod k 100 = k := Int.tmod_eq_of_lt (by omega) (by omega)
         rw [h1, e2]
         simpa using hk.2
     · rw [other_putOlds m n i (Ne.symm e), other_dropAll _ _ _ (Ne.symm e)] at hu
       exact h.clean i (by omega) u hu
   · rw [other_putOlds m n j (by omega), other_dropAll _ _ _ (by omega)]
     exact h.rest j (by omega)
 · rw [if_neg h0, if_neg h0, List.append_nil] at hs ⊢
   obtain ⟨h1, h2⟩ := fold_units hv hn h0 (m.iT[n].on.filter (inD m)) (fun k hk => (List.mem_filter.1 hk).1) p h.sort
   refine ⟨hs, fun i hi u hu => ?_, fun j hj => ?_⟩
   · by_cases e : i = n
     · subst e
       obtain ⟨h3, h4⟩ := h1 u hu
       rw [hr0] at h3
       obtain ⟨k, hk, rfl⟩ := List.mem_map.1 h3
       cases hq : inD m k
       · rfl
       · exact absurd (List.mem_filter.2 ⟨hk, hq⟩) h4
     · rw [h2 i e] at hu
       exact h.clean i (by omega) u hu
   · rw [h2 j (by omega)]
     exact h.rest j (by omega)
theorem DkA.all {m : Mod} (hv : validM m = true) : ∀ n, n ≤ m.iT.length → DkA m n ((evsD m n).foldl (stepP m) (initP m))
 | 0, _ => ⟨SortP.init hv, fun i hi => by omega, fun _ _ => rfl⟩
 | n + 1, hn => by
   rw [evsD_succ, List.foldl_append]
   exact (DkA.all hv n (by omega)).next hv (by omega)
theorem darkTo_clean {m : Mod} {p : PlaceM} (h : ∀ i, i < m.iT.length → ∀ u ∈ unitsP p ((i : Int) + 1), inD m u.1 = false) : ∀ n, n ≤ m.iT.length → darkTo m p n = []
 | 0, _ => rfl
 | n + 1, hn => by
   rw [darkTo_succ, darkTo_clean h n (by omega), List.nil_append, darkRow, List.flatMap_eq_nil_iff]
   intro u hu
   have := h n (by omega) u hu
   unfold darkU
   rw [if_neg (by simpa [inD] using this)]
theorem evsD_kind {m : Mod} {n : Nat} {x : EvM} (h : x ∈ evsD m n) : x.kind ≠ 5 := by
 obtain ⟨i, _, h⟩ := List.mem_flatMap.1 h
 unfold itemD at h
 split at h
 · rcases List.mem_append.1 h with h | h
   · unfold unitsD at h
     split at h
     · cases h
     · obtain ⟨k, _, rfl⟩ := List.mem_map.1 h; show (3 : Int) ≠ 5; decide
   · unfold lastD at h
     split at h
     · rw [List.mem_singleton.1 h]; show (2 : Int) ≠ 5; decide
     · cases h
 · cases h
theorem evsD_old {m : Mod} (hv : validM m = true) {n : Nat} {x : EvM} (h : x ∈ evsD m n) : x.old.length ≤ 10 := by
 obtain ⟨i, _, h⟩ := List.mem_flatMap.1 h
 unfold itemD at h
 split at h
 · rename_i y hy
   rcases List.mem_append.1 h with h | h
   · unfold unitsD at h
     split at h
     · cases h
     · obtain ⟨k, _, rfl⟩ := List.mem_map.1 h; simp [evU]
   · unfold lastD at h
     split at h
     · rename_i h0
       rw [List.mem_singleton.1 h]
       have hi := ok_item hv (List.mem_of_getElem? hy)
       unfold itemOk at hi
       simp only [Bool.and_eq_true] at hi
       have hk := hi.2
       unfold itemKindB at hk
       rw [if_pos h0] at hk
       simp only [Bool.and_eq_true, decide_eq_true_eq] at hk
       have := List.length_filter_le (fun k => !inD m k) y.on
       show (oldsD m y.on).length ≤ 10
       unfold oldsD
       omega
     · cases h
 · cases h
theorem itemD_len {m : Mod} (hv : validM m = true) (i : Nat) : (itemD m i).length ≤ 17 := by
 unfold itemD
 split
 · rename_i y hy
   have := valid_on hv (List.mem_of_getElem? hy)
   have h2 := List.length_filter_le (inD m) y.on
   unfold unitsD lastD
   split <;> simp <;> omega
 · simp
theorem evsD_len {m : Mod} (hv : validM m = true) : ∀ n, (evsD m n).length ≤ 17 * n
 | 0 => by simp [evsD]
 | n + 1 => by
   rw [evsD_succ, List.length_append]
   have := evsD_len hv n
   have := itemD_len hv n
   omega
theorem evsD_dark (m : Mod) (n : Nat) : darkI (evsD m n) < 0 := by
 unfold darkI
 rw [firstI_none fun j hj => by simpa using evsD_kind (List.getElem_mem hj)]
 decide
theorem evsD_end (m : Mod) (n : Nat) : darkI (evsD m n ++ [evE]) = ((evsD m n).length : Int) := by
 unfold darkI
 refine firstI_at (by simp) (by simp [evE]) fun j hj hjn => ?_
 rw [List.getElem_append_left hjn]
 simpa using evsD_kind (List.getElem_mem hjn)
theorem darkM_evs {m : Mod} (hv : validM m = true) : darkM m (evsD m m.iT.length ++ [evE]) = [] := by
 unfold darkM
 rw [evsD_end, if_neg (by omega)]
 have e : placeAt m (evsD m m.iT.length ++ [evE]) (((evsD m m.iT.length).length : Int)).toNat = (evsD m m.iT.length).foldl (stepP m) (initP m) := by
  unfold placeAt
  simp
 rw [e]
 exact darkTo_clean (DkA.all hv _ (Nat.le_refl _)).clean _ (Nat.le_refl _)
theorem darkM_none (m : Mod) : darkM m (evsD m m.iT.length) = [] := by
 unfold darkM
 rw [if_pos (evsD_dark m _)]
theorem cntD_dark {m : Mod} : ∀ n, n ≤ m.iT.length → (darkTo m (initP m) n).length = cntD m n
 | 0, _ => rfl
 | n + 1, hn => by
   rw [darkTo_succ, List.length_append, cntD_dark n (by omega), cntD_succ (by omega), darkRow, unitsP_init (by omega)]
   congr 1
   generalize m.iT[n].on = l
   induction l with
   | nil => rfl
   | cons k l ih =>
     rw [List.map_cons, List.flatMap_cons, List.length_append, ih, List.filter_cons]
     unfold darkU
     by_cases e : domI m 4 k = m.dT
     · have : inD m k = true := by simpa [inD] using e
       rw [if_pos e, this, if_pos rfl]; simp; omega
     · have : inD m k = false := by simpa [inD] using e
       rw [if_neg e, this]; simp
theorem darkM_one (m : Mod) : (darkM m [evE]).length = cntD m m.iT.length := by
 unfold darkM
 have e : darkI [evE] = 0 := by rfl
 rw [e, if_neg (by decide)]
 exact cntD_dark _ (Nat.le_refl _)
end Go.Proofs.YtaepcjklimigmaaGreatDoor
