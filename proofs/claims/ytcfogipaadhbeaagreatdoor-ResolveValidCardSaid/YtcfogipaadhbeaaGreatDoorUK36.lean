/- A part of the claim: see its last text. -/
import Derived.Test.YtcfogipaadhbeaaGreatDoorUK35

set_option maxRecDepth 100000
set_option maxHeartbeats 16000000
namespace Go.Proofs.YtcfogipaadhbeaaGreatDoor
open Go Go.RowKit Go.Proofs
/-! what validity says -/
theorem v_site {m : Mod} (hv : validM m = true) : soundB (rackOk m) m.rT = true ∧ m.mT.all (machOk m) = true ∧ soundB (linkOk m) m.lT = true := by
 simp only [validM, siteB, Bool.and_eq_true] at hv
 exact ⟨hv.1.1.1.1.1.1.1.1.2, hv.1.1.1.1.1.1.1.2, hv.1.1.1.1.1.1.2⟩
theorem v_rack {m : Mod} (hv : validM m = true) {x : RackM} (hx : x ∈ m.rT) : exI x.site m.sT.length = true ∧ exI x.feed m.fT.length = true := by
 obtain ⟨i, hi, rfl⟩ := List.getElem_of_mem hx
 have := soundB_iff.1 (v_site hv).1 i hi
 simp only [rackOk, Bool.and_eq_true] at this
 exact this.1
theorem v_mach {m : Mod} (hv : validM m = true) {x : MachM} (hx : x ∈ m.mT) : exI x.rack m.rT.length = true ∧ wiI x.cap 0 1048576 = true := by
 have := List.all_eq_true.1 (v_site hv).2.1 x hx
 simpa only [machOk, Bool.and_eq_true] using this
theorem v_link {m : Mod} (hv : validM m = true) {x : LinkM} (hx : x ∈ m.lT) : exI x.a m.sT.length = true ∧ exI x.b m.sT.length = true ∧ x.a < x.b ∧ wiI x.cap 0 1048576 = true := by
 obtain ⟨i, hi, rfl⟩ := List.getElem_of_mem hx
 have := soundB_iff.1 (v_site hv).2.2 i hi
 simp only [linkOk, Bool.and_eq_true, decide_eq_true_eq] at this
 obtain ⟨⟨⟨⟨h1, h2⟩, h3⟩, h4⟩, _⟩ := this
 refine ⟨?_, ?_, h2, h4⟩ <;> simp only [exI, Bool.and_eq_true, decide_eq_true_eq] <;> omega
theorem v_sizes {m : Mod} (hv : validM m = true) : exI m.dT m.sT.length = true ∧ (1 ≤ m.oT ∧ m.oT ≤ 16) ∧ (0 ≤ m.vT ∧ m.vT ≤ m.oT - 1) ∧ 0 ≤ m.aT ∧ m.aT ≤ 7 := by
 simp only [validM, sizesB, wiI, Bool.and_eq_true, decide_eq_true_eq] at hv
 exact ⟨hv.2.1.1.1, hv.2.1.1.2, hv.2.1.2, hv.2.2⟩
theorem v_inc {n : Nat} {l : List Int} (h : incB n l = true) : 0 < l.length ∧ (∀ k ∈ l, exI k n = true) ∧ l.Pairwise (· < ·) := by
 simp only [incB, Bool.and_eq_true, decide_eq_true_eq] at h
 refine ⟨h.1, fun k hk => ?_, ?_⟩
 · obtain ⟨i, hi, rfl⟩ := List.getElem_of_mem hk
   exact (h.2 i hi).1
 · have step : ∀ j (hj : j < l.length), ∀ i (hi : i < j), l[i]'(by omega) < l[j] := fun j => by
     induction j with
     | zero => intro _ i hi; omega
     | succ j ih =>
       intro hj i hi
       have h1 := (h.2 (j + 1) hj).2 (by omega)
       rw [show j + 1 - 1 = j by omega, List.getD_eq_getElem?_getD, List.getElem?_eq_getElem (by omega : j < l.length)] at h1
       simp only [Option.getD_some] at h1
       by_cases e : i = j
       · subst e; exact h1
       · exact Int.lt_trans (ih (by omega) i (by omega)) h1
   rw [List.pairwise_iff_getElem]
   exact fun i j hi hj hij => step j hj i hij
theorem v_item {m : Mod} (hv : validM m = true) {x : ItemM} (hx : x ∈ m.iT) : itemOk m x = true := by
 simp only [validM, Bool.and_eq_true] at hv
 exact List.all_eq_true.1 hv.1.1.2 x hx
/-! sorting -/
theorem insI_last (n : Int) : ∀ (l : List Int), (∀ k ∈ l, k < n) → insI n l = l ++ [n]
 | [], _ => rfl
 | y :: l, h => by
   rw [insI, if_pos (h y (List.mem_cons_self ..)), insI_last n l (fun k hk => h k (List.mem_cons_of_mem _ hk))]
   rfl
theorem sort_go : ∀ (l o : List Int), (o ++ l).Pairwise (· < ·) → l.foldl (fun o n => insI n o) o = o ++ l
 | [], o, _ => by simp
 | n :: l, o, h => by
   have h1 : ∀ k ∈ o, k < n := fun k hk => (List.pairwise_append.1 h).2.2 k hk n (List.mem_cons_self ..)
   rw [List.foldl_cons, insI_last n o h1, sort_go l (o ++ [n]) (by simpa using h)]
   simp
theorem sort_inc {l : List Int} (h : l.Pairwise (· < ·)) : sortI l = l := by
 have := sort_go l [] (by simpa using h)
 simpa [sortI] using this
theorem refsE_all {l : List Decl} {dk : Int} : ∀ (rs : List ByteArray) (i : Nat), (∀ j (hj : j < rs.length), ∃ x, findD l rs[j] = some x ∧ wantB dk (i + j) x.1 = true) → refsE l dk i rs = 0
 | [], _, _ => rfl
 | r :: rs, i, h => by
   obtain ⟨x, hx, hw⟩ := h 0 (by simp)
   simp only [List.getElem_cons_zero, Nat.add_zero] at hx hw
   have ih := refsE_all rs (i + 1) (fun j hj => by
    obtain ⟨y, hy, hwy⟩ := h (j + 1) (by simpa using hj)
    exact ⟨y, by simpa using hy, by rw [show i + 1 + j = i + (j + 1) by omega]; exact hwy⟩)
   unfold refsE
   rw [hx]
   simp only [hw, if_true]
   exact ih
section
variable {l : List Decl} {m : Mod} (h : ∀ s, l.filter (secB s) = partM m s) (hv : validM m = true)
include h hv
theorem num_site {n : Int} (hn : exI n m.sT.length = true) : numN l (siteN m n) = n := by rw [numN, f_site h hv hn]
theorem num_feed {n : Int} (hn : exI n m.fT.length = true) : numN l (feedN m n) = n := by rw [numN, f_feed h hv hn]
theorem num_rack {n : Int} (hn : exI n m.rT.length = true) : numN l (rackN m n) = n := by rw [numN, f_rack h hv hn]
theorem num_mach {n : Int} (hn : exI n m.mT.length = true) : numN l (mchN m n) = n := by rw [numN, f_mach h hv hn]
theorem num_item {n : Int} (hn : exI n m.iT.length = true) : numN l (itN m n) = n := by
 obtain ⟨k, _, _, hf, _⟩ := f_item h hv hn
 rw [numN, hf]
theorem num_machs {ns : List Int} (hn : ∀ k ∈ ns, exI k m.mT.length = true) : (ns.map (mchN m)).map (numN l) = ns := by
 rw [List.map_map]
 conv => rhs; rw [← List.map_id ns]
 exact List.map_congr_left fun k hk => num_mach h hv (hn k hk)
theorem machs_nodup {ns : List Int} (hn : ∀ k ∈ ns, exI k m.mT.length = true) (hp : ns.Pairwise (· < ·)) : (ns.map (mchN m)).Nodup := by
 have h1 : ((ns.map (mchN m)).map (numN l)).Nodup := by
  rw [num_machs h hv hn]
  exact hp.imp fun hab e => by omega
 exact List.Pairwise.of_map _ (fun a b hab => fun e => hab (by rw [e])) h1
end
/-! rules -/
theorem itNs_two (m : Mod) (a b : Int) : itNs m [a, b] = (if 0 < a then [itN m a] else []) ++ if 0 < b then [itN m b] else [] := by
 unfold itNs
 by_cases h1 : 0 < a <;> by_cases h2 : 0 < b <;> simp [h1, h2]
theorem exI_pos {n : Int} {k : Nat} (h : exI n k = true) : 0 < n := by
 simp only [exI, Bool.and_eq_true, decide_eq_true_eq] at h; omega
theorem noList_nil {l : List Int} (h : noList l = true) : l = [] := List.eq_nil_of_length_eq_zero (by simpa [noList] using h)
theorem rule_forms {m : Mod} {x : RuleM} (h : ruleOk m x = true) :
    ((x.kind = 0 ∨ x.kind = 1 ∨ x.kind = 2 ∨ x.kind = 6) ∧ exI x.item m.iT.length = true ∧ (x.kind = 0 → (m.iT[(x.item - 1).toNat]?).map (·.kind) = some 0) ∧ x.other = 0 ∧ x.machines = []) ∨
    (x.kind = 3 ∧ exI x.item m.iT.length = true ∧ x.other = 0 ∧ incB m.mT.length x.machines = true) ∨
    (x.kind = 4 ∧ exI x.item m.iT.length = true ∧ exI x.other m.iT.length = true ∧ x.item ≠ x.other ∧ x.machines = []) ∨
    (x.kind = 5 ∧ x.item = 0 ∧ x.other = 0 ∧ x.machines = []) := by
 unfold ruleOk at h
 split at h
 · rename_i e
   simp only [Bool.and_eq_true, decide_eq_true_eq] at h
   obtain ⟨⟨⟨⟨⟨⟨h1, h2⟩, h3⟩, h4⟩, h5⟩, h6⟩, h7⟩ := h
   refine .inl ⟨.inl e, h1, fun _ => ?_, h3, noList_nil h6⟩
   split at h2
   · rename_i y hy; rw [hy]; exact congrArg some (of_decide_eq_true h2)
   · cases h2
 split at h
 · rename_i e0 e
   simp only [Bool.and_eq_true, decide_eq_true_eq] at h
   obtain ⟨⟨⟨⟨h1, h2⟩, h3⟩, h4⟩, h5⟩ := h
   exact .inl ⟨.inr (.inl e), h1, fun e2 => absurd e2 e0, h2, noList_nil h4⟩
 split at h
 · rename_i e0 _ e
   simp only [Bool.and_eq_true, decide_eq_true_eq] at h
   obtain ⟨⟨⟨⟨⟨h1, h2⟩, h3⟩, h4⟩, h5⟩, h6⟩ := h
   exact .inl ⟨.inr (.inr (.inl e)), h1, fun e2 => absurd e2 e0, h3, noList_nil h5⟩
 split at h
 · rename_i e
   simp only [Bool.and_eq_true, decide_eq_true_eq] at h
   obtain ⟨⟨⟨⟨⟨h1, h2⟩, h3⟩, h4⟩, h5⟩, h6⟩ := h
   exact .inr (.inl ⟨e, h1, h3, h2⟩)
 split at h
 · rename_i e
   simp only [Bool.and_eq_true, decide_eq_true_eq] at h
   obtain ⟨⟨⟨⟨⟨⟨h1, h2⟩, h3⟩, h4⟩, h5⟩, h6⟩, h7⟩ := h
   exact .inr (.inr (.inl ⟨e, h1, h2, h3, noList_nil h6⟩))
 split at h
 · rename_i e
   simp only [Bool.and_eq_true, decide_eq_true_eq] at h
   obtain ⟨⟨⟨⟨⟨h1, h2⟩, h3⟩, h4⟩, h5⟩, h6⟩ := h
   exact .inr (.inr (.inr ⟨e, h1, h2, noList_nil h5⟩))
 split at h
 · rename_i e0 _ _ _ _ _ e
   simp only [Bool.and_eq_true, decide_eq_true_eq] at h
   obtain ⟨⟨⟨⟨⟨h1, h2⟩, h3⟩, h4⟩, h5⟩, h6⟩ := h
   exact .inl ⟨.inr (.inr (.inr e)), h1, fun e2 => absurd e2 e0, h2, noList_nil h5⟩
 · cases h
section
variable {l : List Decl} {m : Mod} (h : ∀ s, l.filter (secB s) = partM m s) (hv : validM m = true)
include h hv
theorem check_rule {x : RuleM} (hx : ruleOk m x = true) : checkE l (ruleDl m x) = 0 := by
 rcases rule_forms hx with ⟨hk, h1, h2, h3, h4⟩ | ⟨hk, h1, h3, h4⟩ | ⟨hk, h1, h2, h3, h4⟩ | ⟨hk, h1, h3, h4⟩
 · have hr : (ruleDl m x).refs = [itN m x.item] := by
     show itNs m [x.item, x.other] ++ x.machines.map (mchN m) = _
     rw [itNs_two, if_pos (exI_pos h1), h3, if_neg (by decide), h4]; rfl
   obtain ⟨k, hk0, hk2, hf, hkk⟩ := f_item h hv h1
   have hsec : sectI (5 + k) = 5 := by unfold sectI; rw [if_pos (by omega)]
   have hw : wantB (ruleDl m x).kind 0 (5 + k) = true := by
    show wantB (10 + x.kind) 0 (5 + k) = true
    rcases hk with e | e | e | e <;> rw [e]
    · have := (h2 e).symm.trans hkk
      obtain rfl : 0 = k := Option.some.inj this
      rfl
    · show decide (sectI (5 + k) = 5) = true
      simp [hsec]
    · show decide (sectI (5 + k) = 5) = true
      simp [hsec]
    · show decide (sectI (5 + k) = 5) = true
      simp [hsec]
   have he : refsE l (ruleDl m x).kind 0 (ruleDl m x).refs = 0 := by
    rw [hr]
    refine refsE_all _ _ fun j hj => ?_
    obtain rfl : j = 0 := by simp at hj; omega
    exact ⟨_, hf, hw⟩
   have hm : machsD (ruleDl m x) = [] := by
    unfold machsD
    rw [if_neg (by show ¬ (5 ≤ 10 + x.kind ∧ 10 + x.kind ≤ 7); omega), if_neg (by show ¬ (10 + x.kind = 13); omega)]
   unfold checkE
   rw [he, if_neg (by simp), hm, if_neg (by simp), if_neg (by show ¬ ((10 + x.kind = 4 ∨ 10 + x.kind = 14) ∧ _); omega)]
 · obtain ⟨q1, q2, q3⟩ := v_inc h4
   have hr : (ruleDl m x).refs = itN m x.item :: x.machines.map (mchN m) := by
    show itNs m [x.item, x.other] ++ x.machines.map (mchN m) = _
    rw [itNs_two, if_pos (exI_pos h1), h3, if_neg (by decide)]; rfl
   have hkd : (ruleDl m x).kind = 13 := by show 10 + x.kind = 13; omega
   obtain ⟨k, hk0, hk2, hf, hkk⟩ := f_item h hv h1
   have hsec : sectI (5 + k) = 5 := by unfold sectI; rw [if_pos (by omega)]
   have he : refsE l (ruleDl m x).kind 0 (ruleDl m x).refs = 0 := by
    rw [hr, hkd]
    refine refsE_all _ _ fun j hj => ?_
    cases j with
    | zero => exact ⟨_, hf, by show decide (sectI (5 + k) = 5) = true; simp [hsec]⟩
    | succ j =>
      have hj2 : j < x.machines.length := by simpa using hj
      refine ⟨(3, x.machines[j]), ?_, ?_⟩
      · simp only [List.getElem_cons_succ, List.getElem_map]
        exact f_mach h hv (q2 _ (List.getElem_mem hj2))
      · rw [Nat.zero_add]
        show (if j + 1 = 0 then decide (sectI 3 = 5) else decide ((3 : Int) = 3)) = true
        rw [if_neg (by omega)]
        rfl
   have hm : machsD (ruleDl m x) = x.machines.map (mchN m) := by
    unfold machsD
    rw [hkd, if_neg (by decide), if_pos rfl, hr]; rfl
   unfold checkE
   rw [he, if_neg (by simp), hm, if_neg (by simp only [Decidable.not_not]; exact machs_nodup h hv q2 q3), if_neg (by rw [hkd]; simp)]
 · have hr : (ruleDl m x).refs = [itN m x.item, itN m x.other] := by
     show itNs m [x.item, x.other] ++ x.machines.map (mchN m) = _
     rw [itNs_two, if_pos (exI_pos h1), if_pos (exI_pos h2), h4]; rfl
   have hkd : (ruleDl m x).kind = 14 := by show 10 + x.kind = 14; omega
   obtain ⟨k, hk0, hk2, hf, _⟩ := f_item h hv h1
   obtain ⟨k', hk0', hk2', hf', _⟩ := f_item h hv h2
   have hsec : sectI (5 + k) = 5 := by unfold sectI; rw [if_pos (by omega)]
   have hsec' : sectI (5 + k') = 5 := by unfold sectI; rw [if_pos (by omega)]
   have he : refsE l (ruleDl m x).kind 0 (ruleDl m x).refs = 0 := by
    rw [hr, hkd]
    refine refsE_all _ _ fun j hj => ?_
    match j, hj with
    | 0, _ => exact ⟨_, hf, by show decide (sectI (5 + k) = 5) = true; simp [hsec]⟩
    | 1, _ => exact ⟨_, hf', by show decide (sectI (5 + k') = 5) = true; simp [hsec']⟩
   have hm : machsD (ruleDl m x) = [] := by
    unfold machsD
    rw [hkd, if_neg (by decide), if_neg (by decide)]
   have hne : itN m x.item ≠ itN m x.other := fun e => by
    rw [e, hf'] at hf
    injection hf with hf
    injection hf with _ hf
    exact h3 hf.symm
   unfold checkE
   rw [he, if_neg (by simp), hm, if_neg (by simp), if_neg (by rw [hr]; simp [hne])]
 · have hr : (ruleDl m x).refs = [] := by
     show itNs m [x.item, x.other] ++ x.machines.map (mchN m) = _
     rw [itNs_two, h1, h3, if_neg (by decide), h4]; rfl
   have hkd : (ruleDl m x).kind = 15 := by show 10 + x.kind = 15; omega
   have hm : machsD (ruleDl m x) = [] := by
    unfold machsD
    rw [hkd, if_neg (by decide), if_neg (by decide)]
   unfold checkE
   rw [hr, hm, hkd]
   simp [refsE]
theorem check_sec {s : Int} {d : Decl} (hd : d ∈ partM m s) : checkE l d = 0 := by
 unfold partM at hd
 split at hd
 · obtain ⟨x, hx, rfl⟩ := List.mem_map.1 hd; rfl
 split at hd
 · obtain ⟨x, hx, rfl⟩ := List.mem_map.1 hd; rfl
 split at hd
 · obtain ⟨x, hx, rfl⟩ := List.mem_map.1 hd
   obtain ⟨h1, h2⟩ := v_rack hv hx
   have he : refsE l (rackD m x).kind 0 (rackD m x).refs = 0 := refsE_all _ _ fun j hj => by
    match j, hj with
    | 0, _ => exact ⟨_, f_site h hv h1, rfl⟩
    | 1, _ => exact ⟨_, f_feed h hv h2, rfl⟩
   unfold checkE
   rw [he]; rfl
 split at hd
 · obtain ⟨x, hx, rfl⟩ := List.mem_map.1 hd
   obtain ⟨h1, _⟩ := v_mach hv hx
   have he : refsE l (machD m x).kind 0 (machD m x).refs = 0 := refsE_all _ _ fun j hj => by
    match j, hj with
    | 0, _ => exact ⟨_, f_rack h hv h1, rfl⟩
   unfold checkE
   rw [he]; rfl
 split at hd
 · obtain ⟨x, hx, rfl⟩ := List.mem_map.1 hd
   obtain ⟨h1, h2, h3, _⟩ := v_link hv hx
   have he : refsE l (linkD m x).kind 0 (linkD m x).refs = 0 := refsE_all _ _ fun j hj => by
    match j, hj with
    | 0, _ => exact ⟨_, f_site h hv h1, rfl⟩
    | 1, _ => exact ⟨_, f_site h hv h2, rfl⟩
   have hne : siteN m x.a ≠ siteN m x.b := fun e => by
    have h5 := f_site h hv h1
    rw [e, f_site h hv h2] at h5
    injection h5 with h5
    injection h5 with _ h5
    omega
   unfold checkE
   rw [he, if_neg (by simp), if_neg (by show ¬ ¬ ([] : List ByteArray).Nodup; simp), if_neg]
   rintro ⟨_, e⟩
   exact hne (Option.some.inj e)
 split at hd
 · obtain ⟨x, hx, rfl⟩ := List.mem_map.1 hd
   have hok := v_item hv hx
   simp only [itemOk, Bool.and_eq_true] at hok
   obtain ⟨q1, q2, q3⟩ := v_inc hok.1.1.1.1
   have hk := valid_kind hv hx
   have hkd : (itemD m x).kind = 5 + x.kind := rfl
   have he : refsE l (itemD m x).kind 0 (itemD m x).refs = 0 := refsE_all _ _ fun j hj => by
    have hj2 : j < x.on.length := by simpa [itemD] using hj
    refine ⟨(3, x.on[j]), ?_, ?_⟩
    · show findD l ((x.on.map (mchN m))[j]'(by simpa using hj2)) = _
      rw [List.getElem_map]
      exact f_mach h hv (q2 _ (List.getElem_mem hj2))
    · rw [hkd]
      rcases hk with e | e | e <;> rw [e] <;> rfl
   have hm : machsD (itemD m x) = x.on.map (mchN m) := by
    unfold machsD
    rw [if_pos (by rw [hkd]; omega)]; rfl
   unfold checkE
   rw [he, if_neg (by simp), hm, if_neg (by simp only [Decidable.not_not]; exact machs_nodup h hv q2 q3), if_neg (by rw [hkd]; omega)]
 split at hd
 · obtain rfl := List.mem_singleton.1 hd
   have he : refsE l (darkD m).kind 0 (darkD m).refs = 0 := refsE_all _ _ fun j hj => by
    match j, hj with
    | 0, _ => exact ⟨_, f_site h hv (v_sizes hv).1, rfl⟩
   unfold checkE
   rw [he]; rfl
 split at hd
 · unfold failD at hd
   split at hd
   · obtain rfl := List.mem_singleton.1 hd; rfl
   · cases hd
 split at hd
 · obtain ⟨x, hx, rfl⟩ := List.mem_map.1 hd
   exact check_rule h hv (v_rule hv hx)
 · cases hd
end
def darkF (l0 : List Decl) (x : Int × Int × Int) (l : List Decl) : Int × Int × Int := l.foldl (fun _ d => (refN l0 d 0, d.nums.getD 0 0, d.nums.getD 1 0)) x
def failF (x : Int) (l : List Decl) : Int := l.foldl (fun _ d => d.by_) x
def rackF (l0 : List Decl) (d : Decl) : RackM := ⟨d.name, refN l0 d 0, refN l0 d 1⟩
def machF (l0 : List Decl) (d : Decl) : MachM := ⟨d.name, refN l0 d 0, d.nums.getD 0 0⟩
def linkF (l0 : List Decl) (d : Decl) : LinkM := ⟨min (refN l0 d 0) (refN l0 d 1), max (refN l0 d 0) (refN l0 d 1), d.nums.getD 0 0⟩
def sumM (l0 : List Decl) (m : Mod) (l : List Decl) : Mod :=
 ⟨m.sT ++ (l.filter (secB 0)).map (·.name), m.fT ++ (l.filter (secB 1)).map (·.name), m.rT ++ (l.filter (secB 2)).map (rackF l0), m.mT ++ (l.filter (secB 3)).map (machF l0), m.lT ++ (l.filter (secB 4)).map (linkF l0), m.iT ++ (l.filter (secB 5)).map (itemA l0),
   (darkF l0 (m.dT, m.oT, m.vT) (l.filter (secB 8))).1, (darkF l0 (m.dT, m.oT, m.vT) (l.filter (secB 8))).2.1, (darkF l0 (m.dT, m.oT, m.vT) (l.filter (secB 8))).2.2, failF m.aT (l.filter (secB 9)), m.uT ++ (l.filter (secB 10)).map (ruleA l0)⟩
theorem filter_hd (s : Int) (d : Decl) (l : List Decl) : (d :: l).filter (secB s) = if sectI d.kind = s then d :: l.filter (secB s) else l.filter (secB s) := by
 by_cases e : sectI d.kind = s
 · rw [if_pos e, List.filter_cons_of_pos (by simpa [secB] using e)]
 · rw [if_neg e, List.filter_cons_of_neg (by simpa [secB] using e)]
theorem fold_add (l0 : List Decl) : ∀ (l : List Decl) (m : Mod), (∀ d ∈ l, 0 ≤ d.kind) → l.foldl (addM l0) m = sumM l0 m l
 | [], m, _ => by simp [sumM, darkF, failF]
 | d :: l, m, hk => by
   rw [List.foldl_cons, fold_add l0 l _ (fun e he => hk e (List.mem_cons_of_mem _ he))]
   have h0 := hk d (List.mem_cons_self ..)
   unfold addM
   split
   · rename_i e
     have hs : sectI d.kind = 0 := by rw [e]; rfl
     simp [sumM, filter_hd, hs]
   split
   · rename_i e
     have hs : sectI d.kind = 1 := by rw [e]; rfl
     simp [sumM, filter_hd, hs]
   split
   · rename_i e
     have hs : sectI d.kind = 2 := by rw [e]; rfl
     simp [sumM, filter_hd, hs, rackF]
   split
   · rename_i e
     have hs : sectI d.kind = 3 := by rw [e]; rfl
     simp [sumM, filter_hd, hs, machF]
   split
   · rename_i e
     have hs : sectI d.kind = 4 := by rw [e]; rfl
     simp [sumM, filter_hd, hs, linkF]
   split
   · rename_i e
     have hs : sectI d.kind = 5 := by unfold sectI; rw [if_pos e]
     simp [sumM, filter_hd, hs]
   split
   · rename_i e
     have hs : sectI d.kind = 8 := by rw [e]; rfl
     simp [sumM, filter_hd, hs, darkF]
   split
   · rename_i e
     have hs : sectI d.kind = 9 := by rw [e]; rfl
     simp [sumM, filter_hd, hs, failF]
   · have hs : sectI d.kind = 10 := by unfold sectI; rw [if_neg (by omega), if_pos (by omega)]
     simp [sumM, filter_hd, hs]
theorem map_id_of {α β : Type} {f : α → β} {g : β → α} {l : List α} (h : ∀ x ∈ l, g (f x) = x) : (l.map f).map g = l := by
 rw [List.map_map]
 conv => rhs; rw [← List.map_id l]
 exact List.map_congr_left h
theorem part_kind {m : Mod} (hv : validM m = true) {s : Int} {d : Decl} (hd : d ∈ partM m s) : 0 ≤ d.kind := by
 unfold partM at hd
 split at hd
 · obtain ⟨x, hx, rfl⟩ := List.mem_map.1 hd; exact Int.le_refl _
 split at hd
 · obtain ⟨x, hx, rfl⟩ := List.mem_map.1 hd; show (0 : Int) ≤ 1; decide
 split at hd
 · obtain ⟨x, hx, rfl⟩ := List.mem_map.1 hd; show (0 : Int) ≤ 2; decide
 split at hd
 · obtain ⟨x, hx, rfl⟩ := List.mem_map.1 hd; show (0 : Int) ≤ 3; decide
 split at hd
 · obtain ⟨x, hx, rfl⟩ := List.mem_map.1 hd; show (0 : Int) ≤ 4; decide
 split at hd
 · obtain ⟨x, hx, rfl⟩ := List.mem_map.1 hd; have := valid_kind hv hx; show 0 ≤ 5 + x.kind; omega
 split at hd
 · obtain rfl := List.mem_singleton.1 hd; show (0 : Int) ≤ 8; decide
 split at hd
 · unfold failD at hd
   split at hd
   · obtain rfl := List.mem_singleton.1 hd; show (0 : Int) ≤ 9; decide
   · cases hd
 split at hd
 · obtain ⟨x, hx, rfl⟩ := List.mem_map.1 hd; have := rule_kind (v_rule hv hx); show 0 ≤ 10 + x.kind; omega
 · cases hd
section
variable {l : List Decl} {m : Mod} (h : ∀ s, l.filter (secB s) = partM m s) (hv : validM m = true)
include h hv
theorem item_back {x : ItemM} (hx : x ∈ m.iT) : itemA l (itemD m x) = x := by
 have hok := v_item hv hx
 simp only [itemOk, Bool.and_eq_true] at hok
 obtain ⟨q1, q2, q3⟩ := v_inc hok.1.1.1.1
 have hon : sortI ((itemD m x).refs.map (numN l)) = x.on := by
  show sortI ((x.on.map (mchN m)).map (numN l)) = x.on
  rw [num_machs h hv q2, sort_inc q3]
 have hkb := hok.2
 obtain ⟨nm, kd, ct, ld, sz, sh, on⟩ := x
 unfold itemA
 rw [hon]
 unfold itemKindB at hkb
 dsimp only at hkb ⊢
 split at hkb
 · rename_i e; subst e
   simp only [Bool.and_eq_true, decide_eq_true_eq] at hkb
   simp [itemD, lastN, hkb.2]
 split at hkb
 · rename_i e; subst e
   simp [itemD, lastN]
 split at hkb
 · rename_i e; subst e
   simp only [Bool.and_eq_true, decide_eq_true_eq] at hkb
   simp [itemD, lastN, hkb.1]
 · cases hkb
theorem rule_back {x : RuleM} (hx : x ∈ m.uT) : ruleA l (ruleDl m x) = x := by
 have hok := v_rule hv hx
 have hn : (numsR x).getD 0 0 = x.n := by
  unfold numsR
  split
  · rfl
  · rename_i hk
    unfold ruleOk at hok
    simp only [List.mem_cons, List.not_mem_nil, or_false, not_or] at hk
    split at hok
    · simp only [Bool.and_eq_true, decide_eq_true_eq] at hok; exact hok.2.symm
    split at hok
    · omega
    split at hok
    · omega
    split at hok
    · simp only [Bool.and_eq_true, decide_eq_true_eq] at hok; exact hok.2.symm
    split at hok
    · simp only [Bool.and_eq_true, decide_eq_true_eq] at hok; exact hok.2.symm
    split at hok
    · omega
    split at hok
    · omega
    · cases hok
 have hrefs : (ruleDl m x).refs = itNs m [x.item, x.other] ++ x.machines.map (mchN m) := rfl
 rcases rule_forms hok with ⟨hk, h1, h2, h3, h4⟩ | ⟨hk, h1, h3, h4⟩ | ⟨hk, h1, h2, h3, h4⟩ | ⟨hk, h1, h3, h4⟩
 · have hr : (ruleDl m x).refs = [itN m x.item] := by rw [hrefs, itNs_two, if_pos (exI_pos h1), h3, if_neg (by decide), h4]; rfl
   have e0 : refN l (ruleDl m x) 0 = x.item := by unfold refN; rw [hr]; exact num_item h hv h1
   have hkd : (ruleDl m x).kind = 10 + x.kind := rfl
   unfold ruleA
   rw [e0, hkd, if_neg (by omega), if_neg (by omega)]
   show RuleM.mk (10 + x.kind - 10) x.item 0 ((numsR x).getD 0 0) x.by_ x.always [] = x
   rw [hn, show 10 + x.kind - 10 = x.kind by omega, ← h3, ← h4]
 · obtain ⟨q1, q2, q3⟩ := v_inc h4
   have hr : (ruleDl m x).refs = itN m x.item :: x.machines.map (mchN m) := by rw [hrefs, itNs_two, if_pos (exI_pos h1), h3, if_neg (by decide)]; rfl
   have e0 : refN l (ruleDl m x) 0 = x.item := by unfold refN; rw [hr]; exact num_item h hv h1
   have hkd : (ruleDl m x).kind = 13 := by show 10 + x.kind = 13; omega
   unfold ruleA
   rw [e0, hkd, if_neg (by decide), if_pos rfl, hr, List.drop_succ_cons, List.drop_zero, num_machs h hv q2, sort_inc q3]
   show RuleM.mk (13 - 10) x.item 0 ((numsR x).getD 0 0) x.by_ x.always x.machines = x
   rw [hn, show (13 - 10 : Int) = x.kind by omega, ← h3]
 · have hr : (ruleDl m x).refs = [itN m x.item, itN m x.other] := by rw [hrefs, itNs_two, if_pos (exI_pos h1), if_pos (exI_pos h2), h4]; rfl
   have e0 : refN l (ruleDl m x) 0 = x.item := by unfold refN; rw [hr]; exact num_item h hv h1
   have e1 : refN l (ruleDl m x) 1 = x.other := by unfold refN; rw [hr]; exact num_item h hv h2
   have hkd : (ruleDl m x).kind = 14 := by show 10 + x.kind = 14; omega
   unfold ruleA
   rw [e0, e1, hkd, if_pos rfl, if_neg (by decide)]
   show RuleM.mk (14 - 10) x.item x.other ((numsR x).getD 0 0) x.by_ x.always [] = x
   rw [hn, show (14 - 10 : Int) = x.kind by omega, ← h4]
 · have hr : (ruleDl m x).refs = [] := by rw [hrefs, itNs_two, h1, h3, if_neg (by decide), h4]; rfl
   have e0 : refN l (ruleDl m x) 0 = 0 := by unfold refN; rw [hr]; rfl
   have hkd : (ruleDl m x).kind = 15 := by show 10 + x.kind = 15; omega
   unfold ruleA
   rw [e0, hkd, if_neg (by decide), if_neg (by decide)]
   show RuleM.mk (15 - 10) 0 0 ((numsR x).getD 0 0) x.by_ x.always [] = x
   rw [hn, show (15 - 10 : Int) = x.kind by omega, ← h4]
   conv => rhs; rw [show x = ⟨x.kind, x.item, x.other, x.n, x.by_, x.always, x.machines⟩ from rfl, h1, h3]
theorem build_sec : buildM l = m := by
 have hk : ∀ d ∈ l, 0 ≤ d.kind := fun d hd => part_kind hv ((mem_sec h).1 hd)
 unfold buildM
 rw [fold_add l l zeroM hk]
 have a0 : (l.filter (secB 0)).map (·.name) = m.sT := by rw [h 0]; exact map_id_of (f := siteD) fun x _ => rfl
 have a1 : (l.filter (secB 1)).map (·.name) = m.fT := by rw [h 1]; exact map_id_of (f := feedD) fun x _ => rfl
 have a2 : (l.filter (secB 2)).map (rackF l) = m.rT := by
  rw [h 2]
  refine map_id_of (f := rackD m) fun x hx => ?_
  obtain ⟨h1, h2⟩ := v_rack hv hx
  unfold rackF
  rw [show refN l (rackD m x) 0 = x.site from num_site h hv h1, show refN l (rackD m x) 1 = x.feed from num_feed h hv h2]
  rfl
 have a3 : (l.filter (secB 3)).map (machF l) = m.mT := by
  rw [h 3]
  refine map_id_of (f := machD m) fun x hx => ?_
  unfold machF
  rw [show refN l (machD m x) 0 = x.rack from num_rack h hv (v_mach hv hx).1]
  rfl
 have a4 : (l.filter (secB 4)).map (linkF l) = m.lT := by
  rw [h 4]
  refine map_id_of (f := linkD m) fun x hx => ?_
  obtain ⟨h1, h2, h3, _⟩ := v_link hv hx
  unfold linkF
  rw [show refN l (linkD m x) 0 = x.a from num_site h hv h1, show refN l (linkD m x) 1 = x.b from num_site h hv h2, Int.min_eq_left (by omega), Int.max_eq_right (by omega)]
  rfl
 have a5 : (l.filter (secB 5)).map (itemA l) = m.iT := by rw [h 5]; exact map_id_of (f := itemD m) fun x hx => item_back h hv hx
 have a8 : darkF l (zeroM.dT, zeroM.oT, zeroM.vT) (l.filter (secB 8)) = (m.dT, m.oT, m.vT) := by
  rw [h 8]
  show (refN l (darkD m) 0, m.oT, m.vT) = _
  rw [show refN l (darkD m) 0 = m.dT from num_site h hv (v_sizes hv).1]
 have a9 : failF zeroM.aT (l.filter (secB 9)) = m.aT := by
  rw [h 9]
  show failF 0 (failD m) = m.aT
  unfold failD
  split
  · rfl
  · rename_i h0; have := (v_sizes hv).2.2.2.1; show (0 : Int) = m.aT; omega
 have a10 : (l.filter (secB 10)).map (ruleA l) = m.uT := by rw [h 10]; exact map_id_of (f := ruleDl m) fun x hx => rule_back h hv hx
 unfold sumM
 rw [a0, a1, a2, a3, a4, a5, a8, a9, a10]
 rfl
end
end Go.Proofs.YtcfogipaadhbeaaGreatDoor
