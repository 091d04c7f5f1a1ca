/- Plain: the plan of a point, and the point of a plan. Conditions: none. Two steps compared by the program's '==' and '!='. Conditions: none. Updates of maps with int keys wherever the map lies. Conditions: none. Maps whose keys are steps and whose elements are their numbers. Conditions: none. -/
import Derived.Test.YtpggamapmgpjcaaGreatDoorK31
import Derived.Test.YtpggamapmgpjcaaGreatDoorK10
import Derived.Shelf.SlicesE.Kit
import Derived.Laws.StructEq
import Derived.Test.YtpggamapmgpjcaaGreatDoorK14
import Derived.RangeFuncRecord
import Derived.DeepKeys3

namespace Go.Proofs.YtpggamapmgpjcaaGreatDoor
open Go Go.RowKit Go.Proofs

/-- the steps whose number is 1 -/
def pickM : List StM → List Int → List StM
  | s :: l, v :: x => if v = 1 then s :: pickM l x else pickM l x
  | _, _ => []
/-- the point of steps among the steps of a model; e1: a step is not there, e2: a step stands twice -/
def pointGo (e1 e2 : Int) (L : List StM) : List StM → List Int → List Int × Int
  | [], o => (o, 0)
  | s :: r, o => if s ∈ L then (if o[L.idxOf s]? = some 1 then ([], e2) else pointGo e1 e2 L r (o.set (L.idxOf s) 1)) else ([], e1)
theorem pickM_sub : ∀ (L : List StM) (x : List Int) (s : StM), s ∈ pickM L x → s ∈ L
  | [], _, s, h => by simp [pickM] at h
  | a :: l, [], s, h => by simp [pickM] at h
  | a :: l, v :: x, s, h => by
    unfold pickM at h
    split at h
    · rcases List.mem_cons.1 h with rfl | h
      · exact List.mem_cons_self ..
      · exact List.mem_cons_of_mem _ (pickM_sub l x s h)
    · exact List.mem_cons_of_mem _ (pickM_sub l x s h)
theorem pickM_at : ∀ (L : List StM) (x : List Int), L.Nodup → x.length = L.length → ∀ k (hk : k < L.length), L[k] ∈ pickM L x ↔ x[k]? = some 1
  | [], _, _, _, k, hk => by simp at hk
  | a :: l, [], _, h, _, _ => by simp at h
  | a :: l, v :: x, hn, h, k, hk => by
    rw [List.nodup_cons] at hn
    have hl : x.length = l.length := by simpa using h
    cases k with
    | zero =>
      simp only [List.getElem_cons_zero, List.getElem?_cons_zero, Option.some.injEq]
      unfold pickM
      split
      · rename_i e; simp [e]
      · rename_i e
        constructor
        · intro h2; exact absurd (pickM_sub l x a h2) hn.1
        · intro h2; exact absurd h2 e
    | succ k =>
      have hk2 : k < l.length := by simpa using hk
      have ih := pickM_at l x hn.2 hl k hk2
      simp only [List.getElem_cons_succ, List.getElem?_cons_succ]
      unfold pickM
      split
      · rw [List.mem_cons, ih]
        constructor
        · rintro (h2 | h2)
          · exact absurd (h2 ▸ List.getElem_mem hk2) hn.1
          · exact h2
        · exact fun h2 => .inr h2
      · exact ih
theorem pointGo_all (e1 e2 : Int) (L : List StM) (hL : L.Nodup) : ∀ (p : List StM) (o : List Int), p.Nodup → (∀ s ∈ p, s ∈ L) → o.length = L.length → (∀ k (hk : k < L.length), L[k] ∈ p → o[k]? = some 0) →
    ∃ o', pointGo e1 e2 L p o = (o', 0) ∧ o'.length = L.length ∧ ∀ k (hk : k < L.length), o'[k]? = if L[k] ∈ p then some 1 else o[k]?
  | [], o, _, _, hl, _ => ⟨o, rfl, hl, fun k hk => by simp⟩
  | s :: r, o, hp, hs, hl, h0 => by
    rw [List.nodup_cons] at hp
    have hsL : s ∈ L := hs s (List.mem_cons_self ..)
    have hkl : L.idxOf s < L.length := List.idxOf_lt_length_of_mem hsL
    have hk : L[L.idxOf s] = s := List.getElem_idxOf hkl
    have hz := h0 (L.idxOf s) hkl (by rw [hk]; exact List.mem_cons_self ..)
    have hne : ∀ j (hj : j < L.length), j ≠ L.idxOf s → L[j] ≠ s := fun j hj hne e => by
      have hw := List.pairwise_iff_getElem.1 hL
      rcases Nat.lt_or_gt_of_ne hne with h | h
      · exact hw _ _ hj hkl h (e.trans hk.symm)
      · exact hw _ _ hkl hj h (hk.trans e.symm)
    obtain ⟨o', q1, q2, q3⟩ := pointGo_all e1 e2 L hL r (o.set (L.idxOf s) 1) hp.2 (fun t ht => hs t (List.mem_cons_of_mem _ ht)) (by simpa using hl) (fun j hj hj2 => by
      have : j ≠ L.idxOf s := by rintro rfl; rw [hk] at hj2; exact hp.1 hj2
      rw [List.getElem?_set_ne (Ne.symm this)]
      exact h0 j hj (List.mem_cons_of_mem _ hj2))
    refine ⟨o', ?_, q2, fun j hj => ?_⟩
    · rw [pointGo, if_pos hsL, hz, if_neg (by simp)]
      exact q1
    · rw [q3 j hj]
      by_cases e : j = L.idxOf s
      · subst e
        rw [hk, if_neg hp.1, if_pos (List.mem_cons_self ..), List.getElem?_set_self (by omega)]
      · rw [List.getElem?_set_ne (Ne.symm e)]
        have := hne j hj e
        simp [this]
theorem up_nodup {l : List StM} (h : Up l) : l.Nodup := h.imp fun {_ _} hab e => ltS_ne hab e
/-- the point of the plan of a point is this point -/
theorem point_plan (e1 e2 : Int) (L : List StM) (hL : L.Nodup) (x : List Int) (hl : x.length = L.length) (h01 : ∀ v ∈ x, v = 0 ∨ v = 1) :
    pointGo e1 e2 L (normM (pickM L x)) (List.replicate L.length 0) = (x, 0) := by
  obtain ⟨o', q1, q2, q3⟩ := pointGo_all e1 e2 L hL (normM (pickM L x)) (List.replicate L.length 0) (up_nodup (norm_up _)) (fun s hs => pickM_sub L x s ((mem_norm _ _).1 hs)) (by simp) (fun k hk _ => by simp [hk])
  rw [q1]
  congr 1
  apply List.ext_getElem?
  intro k
  by_cases hk : k < L.length
  · rw [q3 k hk]
    have hm : L[k] ∈ normM (pickM L x) ↔ x[k]? = some 1 := (mem_norm _ _).trans (pickM_at L x hL hl k hk)
    by_cases h1 : L[k] ∈ normM (pickM L x)
    · rw [if_pos h1, hm.1 h1]
    · rw [if_neg h1, List.getElem?_replicate_of_lt hk]
      have hkx : k < x.length := by omega
      rw [List.getElem?_eq_getElem hkx]
      rcases h01 x[k] (List.getElem_mem hkx) with h2 | h2
      · rw [h2]
      · exact absurd (hm.2 (by rw [List.getElem?_eq_getElem hkx, h2])) h1
  · rw [List.getElem?_eq_none (by omega), List.getElem?_eq_none (by omega)]
theorem at_ne {L : List StM} (hL : L.Nodup) {j k : Nat} (hj : j < L.length) (hk : k < L.length) (hne : j ≠ k) : L[j] ≠ L[k] := by
  have hw := List.pairwise_iff_getElem.1 hL
  rcases Nat.lt_or_gt_of_ne hne with h | h
  · exact hw _ _ hj hk h
  · exact fun e => hw _ _ hk hj h e.symm
theorem pointGo_inv (e1 e2 : Int) (h1 : e1 ≠ 0) (h2 : e2 ≠ 0) (L : List StM) (hL : L.Nodup) : ∀ (p : List StM) (o x : List Int), o.length = L.length → pointGo e1 e2 L p o = (x, 0) →
    p.Nodup ∧ (∀ s ∈ p, s ∈ L) ∧ (∀ k (hk : k < L.length), L[k] ∈ p → o[k]? ≠ some 1) ∧ x.length = L.length
  | [], o, x, hl, h => by
    injection h with h _
    exact ⟨List.nodup_nil, by simp, by simp, by rw [← h]; exact hl⟩
  | s :: r, o, x, hl, h => by
    unfold pointGo at h
    split at h
    · rename_i hsL
      have hkl : L.idxOf s < L.length := List.idxOf_lt_length_of_mem hsL
      have hk : L[L.idxOf s] = s := List.getElem_idxOf hkl
      split at h
      · injection h with _ h; exact absurd h h2
      · rename_i ho
        obtain ⟨q1, q2, q3, q4⟩ := pointGo_inv e1 e2 h1 h2 L hL r _ x (by simpa using hl) h
        have hsr : s ∉ r := fun hm => q3 (L.idxOf s) hkl (by rw [hk]; exact hm) (by rw [List.getElem?_set_self (by omega)])
        refine ⟨List.nodup_cons.2 ⟨hsr, q1⟩, fun y hy => ?_, fun j hj hm => ?_, q4⟩
        · rcases List.mem_cons.1 hy with rfl | hy
          · exact hsL
          · exact q2 y hy
        · by_cases e : j = L.idxOf s
          · rw [e]; exact ho
          · rcases List.mem_cons.1 hm with e2 | hm
            · exact absurd (e2.trans hk.symm) (at_ne hL hj hkl e)
            · have := q3 j hj hm
              rwa [List.getElem?_set_ne (Ne.symm e)] at this
    · injection h with _ h; exact absurd h h1
/-- the plan of the point of a plan has this plan's steps in order -/
theorem plan_point (e1 e2 : Int) (h1 : e1 ≠ 0) (h2 : e2 ≠ 0) (L : List StM) (hL : L.Nodup) (p : List StM) (x : List Int) (h : pointGo e1 e2 L p (List.replicate L.length 0) = (x, 0)) :
    normM (pickM L x) = normM p ∧ (normM p).length = p.length ∧ x.length = L.length ∧ ∀ v ∈ x, v = 0 ∨ v = 1 := by
  obtain ⟨n1, n2, _, n4⟩ := pointGo_inv e1 e2 h1 h2 L hL p _ x (by simp) h
  obtain ⟨o', q1, q2, q3⟩ := pointGo_all e1 e2 L hL p (List.replicate L.length 0) n1 n2 (by simp) (fun k hk _ => by simp [hk])
  rw [h] at q1
  injection q1 with q1 _
  subst q1
  refine ⟨up_ext (norm_up _) (norm_up _) fun y => ?_, ?_, n4, fun v hv => ?_⟩
  · rw [mem_norm, mem_norm]
    constructor
    · intro hy
      obtain ⟨k, hk, rfl⟩ := List.getElem_of_mem (pickM_sub L x y hy)
      have h3 := (pickM_at L x hL n4 k hk).1 hy
      rw [q3 k hk] at h3
      split at h3
      · rename_i hm; exact hm
      · rw [List.getElem?_replicate_of_lt hk] at h3
        simp at h3
    · intro hy
      obtain ⟨k, hk, rfl⟩ := List.getElem_of_mem (n2 y hy)
      exact (pickM_at L x hL n4 k hk).2 (by rw [q3 k hk, if_pos hy])
  · exact ((List.perm_ext_iff_of_nodup (up_nodup (norm_up p)) n1).2 fun y => mem_norm p y).length_eq
  · obtain ⟨k, hk, rfl⟩ := List.getElem_of_mem hv
    have hkL : k < L.length := by omega
    have h3 := q3 k hkL
    rw [List.getElem?_eq_getElem hk] at h3
    split at h3
    · exact .inr (Option.some.inj h3)
    · rw [List.getElem?_replicate_of_lt hkL] at h3
      exact .inl (Option.some.inj h3)
end Go.Proofs.YtpggamapmgpjcaaGreatDoor

namespace Go.Proofs.YtpggamapmgpjcaaGreatDoor
open Go Go.RowKit Go.Proofs

theorem run_eq_mv (a b : MvM) (d : Nat) (w : World) : (Op.equalIn (d + 2) 51 (.agg #[.int .i64 a.1, .int .i64 a.2.1, .int .i64 a.2.2]) (.agg #[.int .i64 b.1, .int .i64 b.2.1, .int .i64 b.2.2])).run Tryz.prog w = .ok (decide (a = b)) w := by
  have u3 := Tryz.underlying3
  have a3 := Tryz.isAgg3
  have z3 := Tryz.sizeOf3
  have hS : Tryz.prog.underlying 51 = some (.struct (Tryz.prog.fieldsOf 51)) := by kernel_rfl
  have hp : Tryz.prog.stoodInHeld 51 = false := by kernel_rfl
  have ex : decide (a = b) = (decide (a.1 = b.1) && (decide (a.2.1 = b.2.1) && decide (a.2.2 = b.2.2))) := by
    obtain ⟨a1, a2, a3⟩ := a
    obtain ⟨b1, b2, b3⟩ := b
    simp
  rw [ex, run_equalIn_agg w (d + 1) 51 _ _ hS hp]
  simp only [Program.fieldsOf, Tryz.underlying51]
  go_simp
  by_cases h1 : a.1 = b.1 <;> by_cases h2 : a.2.1 = b.2.1 <;> by_cases h3 : a.2.2 = b.2.2 <;> simp [h1, h2, h3]
theorem run_eq_st (a b : StM) (w : World) : (Op.equalIn 10000 53 (.agg #[.int .i64 a.1, .int .i64 a.2.1, .int .i64 a.2.2.1, .int .i64 a.2.2.2]) (.agg #[.int .i64 b.1, .int .i64 b.2.1, .int .i64 b.2.2.1, .int .i64 b.2.2.2])).run Tryz.prog w = .ok (decide (a = b)) w := by
  have u3 := Tryz.underlying3
  have a3 := Tryz.isAgg3
  have z3 := Tryz.sizeOf3
  have u5 := Tryz.underlying51
  have a5 := Tryz.isAgg51
  have z5 := Tryz.sizeOf51
  have hS : Tryz.prog.underlying 53 = some (.struct (Tryz.prog.fieldsOf 53)) := by kernel_rfl
  have hp : Tryz.prog.stoodInHeld 53 = false := by kernel_rfl
  have ex : decide (a = b) = (decide (a.1 = b.1) && decide (a.2 = b.2)) := by
    obtain ⟨a1, a2⟩ := a
    obtain ⟨b1, b2⟩ := b
    simp
  have hm := run_eq_mv a.2 b.2
  rw [ex, show (10000 : Nat) = 9999 + 1 from rfl, run_equalIn_agg w 9999 53 _ _ hS hp]
  simp only [Program.fieldsOf, Tryz.underlying53]
  go_simp
  by_cases h1 : a.1 = b.1 <;> by_cases h2 : a.2 = b.2 <;> simp [h1, h2]
/-- what the walk asks of a comparison whose answer is known -/
theorem step_eq {a b : StM} {q : Bool} (h : decide (a = b) = q) : ∀ W, (Op.equalIn 10000 53 (.agg #[.int .i64 a.1, .int .i64 a.2.1, .int .i64 a.2.2.1, .int .i64 a.2.2.2]) (.agg #[.int .i64 b.1, .int .i64 b.2.1, .int .i64 b.2.2.1, .int .i64 b.2.2.2])).run Tryz.prog W = .ok q W := fun W => by
  rw [← h]; exact run_eq_st a b W
end Go.Proofs.YtpggamapmgpjcaaGreatDoor

namespace Go.Proofs.YtpggamapmgpjcaaGreatDoor
open Go Go.RowKit Go.Proofs

theorem setObj_put {P : Program} {w : World} {r : Nat} {es : Array MapEntry} {c : Nat} (h : w.heap[r]? = some (.map es c)) (o : Obj) : (setObj r o).run P w = .ok () (w.putObj r o) := by
  simp only [setObj, Sem.run, h]
  rfl
theorem run_update_new {P : Program} {w : World} {t K E : TypeId} {r : Nat} {es : Array MapEntry} {c : Nat} {k : Int} {v : Value}
    (ht : P.underlying t = some (.map K E)) (hk : P.underlying K = some (.int .i64)) (hg : w.heap[r]? = some (.map es c)) (hf : Instr.findNow (.int .i64) (.int .i64 k) es.toList 0 = some none) :
    (Instr.mapUpdate t (.map (some r)) (.int .i64 k) v).run P w = .ok () (w.putObj r (.map (es.push { key := .int .i64 k, val := v, born := c }) (c + 1))) := by
  unfold Instr.mapUpdate
  simp [Sem.run_bind, run_underlying ht, getObj_run hg, checkKey_int hk, run_findKey_int hk k es.toList hf, setObj_put hg]
theorem run_update_next {P : Program} {w : World} {t K E : TypeId} {r : Nat} (f : Nat → Value) {n : Nat} {v : Value} (ht : P.underlying t = some (.map K E)) (hk : P.underlying K = some (.int .i64)) (hg : w.heap[r]? = some (.map (ents f n) n)) (hv : v = f n) :
    (Instr.mapUpdate t (.map (some r)) (.int .i64 (n : Int)) v).run P w = .ok () (w.putObj r (.map (ents f (n + 1)) (n + 1))) := by
  rw [run_update_new ht hk hg (find_ents_new f n), hv, ents_push]
end Go.Proofs.YtpggamapmgpjcaaGreatDoor

namespace Go.Proofs.YtpggamapmgpjcaaGreatDoor
open Go Go.RowKit Go.Proofs

/-- a step as a value -/
def stV (x : StM) : Value := .agg #[.int .i64 x.1, .int .i64 x.2.1, .int .i64 x.2.2.1, .int .i64 x.2.2.2]
/-- the entries of a map from the steps of a list to their numbers -/
def entsS : List StM → Nat → List MapEntry
  | [], _ => []
  | s :: l, i => { key := stV s, val := .int .i64 (i : Nat), born := i } :: entsS l (i + 1)
theorem entsS_snoc (s : StM) : ∀ (l : List StM) (i : Nat), entsS (l ++ [s]) i = entsS l i ++ [{ key := stV s, val := .int .i64 ((i + l.length : Nat) : Int), born := i + l.length }]
  | [], i => by simp [entsS]
  | a :: l, i => by
    have := entsS_snoc s l (i + 1)
    simp only [List.cons_append, entsS, this, List.length_cons]
    rw [show i + 1 + l.length = i + (l.length + 1) by omega]
theorem run_check_mv (em : Bool) (d : Nat) (a : MvM) (w : World) : (Instr.checkKey em (d + 2) 51 (.agg #[.int .i64 a.1, .int .i64 a.2.1, .int .i64 a.2.2])).run Tryz.prog w = .ok () w := by
  have u3 := Tryz.underlying3
  have a3 := Tryz.isAgg3
  have z3 := Tryz.sizeOf3
  have hS : Tryz.prog.underlying 51 = some (.struct (Tryz.prog.fieldsOf 51)) := by kernel_rfl
  have hc := fun k => checkKey_int (P := Tryz.prog) (kd := .i64) Tryz.underlying3 em d k w
  rw [show d + 2 = (d + 1) + 1 from rfl]
  unfold Instr.checkKey
  simp only [Sem.run_bind, run_underlying hS, Result.andThen_ok]
  rw [← Array.forIn_toList]
  simp only [Program.fieldsOf, Tryz.underlying51]
  go_simp

theorem run_check_st (em : Bool) (x : StM) (w : World) : (Instr.checkKey em 10000 53 (stV x)).run Tryz.prog w = .ok () w := by
  have u3 := Tryz.underlying3
  have a3 := Tryz.isAgg3
  have z3 := Tryz.sizeOf3
  have u5 := Tryz.underlying51
  have a5 := Tryz.isAgg51
  have z5 := Tryz.sizeOf51
  have hS : Tryz.prog.underlying 53 = some (.struct (Tryz.prog.fieldsOf 53)) := by kernel_rfl
  have hc := fun k => checkKey_int (P := Tryz.prog) (kd := .i64) Tryz.underlying3 em 9998 k w
  have hm := run_check_mv em 9997 x.2 w
  rw [show (10000 : Nat) = 9999 + 1 from rfl]
  unfold Instr.checkKey stV
  simp only [Sem.run_bind, run_underlying hS, Result.andThen_ok]
  rw [← Array.forIn_toList]
  simp only [Program.fieldsOf, Tryz.underlying53]
  go_simp
theorem run_asking_st (x : StM) (w : World) : ∀ (l : List StM) (i j : Nat), (Instr.findAsking 53 (stV x) (entsS l i) j).run Tryz.prog w = .ok (if x ∈ l then some (j + l.idxOf x, .int .i64 ((i + l.idxOf x : Nat) : Int)) else none) w
  | [], i, j => by simp [entsS, Instr.findAsking]
  | s :: l, i, j => by
    have he : (Op.equal 53 (stV x) (stV s)).run Tryz.prog w = .ok (decide (x = s)) w := run_eq_st x s w
    have ih := run_asking_st x w l (i + 1) (j + 1)
    unfold entsS Instr.findAsking
    rw [Sem.run_bind]
    simp only [he, Result.andThen_ok]
    by_cases h : x = s
    · subst h
      simp
    · rw [if_neg (by simpa using h), ih]
      by_cases hm : x ∈ l
      · rw [if_pos hm, if_pos (List.mem_cons_of_mem _ hm), List.idxOf_cons, show (s == x) = false by simpa using Ne.symm h]
        rw [cond_false, show j + 1 + List.idxOf x l = j + (List.idxOf x l + 1) by omega, show i + 1 + List.idxOf x l = i + (List.idxOf x l + 1) by omega]
      · rw [if_neg hm, if_neg (by simp [h, hm])]
theorem run_find_st (x : StM) (w : World) (l : List StM) : (Instr.findKey 53 (stV x) (entsS l 0)).run Tryz.prog w = .ok (if x ∈ l then some (l.idxOf x, .int .i64 ((l.idxOf x : Nat) : Int)) else none) w := by
  have ha := run_asking_st x w l 0 0
  simp only [Nat.zero_add] at ha
  unfold Instr.findKey
  simp only [Sem.run_bind, run_underlying (P := Tryz.prog) (t := 53) Tryz.underlying53, Result.andThen_ok]
  cases l with
  | nil => simp [entsS, Instr.findNow]
  | cons s l =>
    unfold entsS Instr.findNow
    simp only [Instr.sameNow]
    exact ha
theorem run_look_st {w : World} {r c : Nat} {l : List StM} (x : StM) (hg : w.heap[r]? = some (.map (entsS l 0).toArray c)) : (Instr.lookup 57 (.map (some r)) (stV x) true).run Tryz.prog w = .ok (.tuple #[.int .i64 (if x ∈ l then (l.idxOf x : Int) else 0), .bool (decide (x ∈ l))]) w := by
  unfold Instr.lookup
  have hz : (zeroValue 3).run Tryz.prog w = .ok (.int .i64 0) w := by kernel_rfl
  simp only [Sem.run_bind, run_underlying (P := Tryz.prog) Tryz.underlying57, getObj_run hg, run_check_st, Result.andThen_ok, Sem.run_pure, run_find_st]
  by_cases hm : x ∈ l
  · simp [hm]
  · simp [hm, hz]
theorem run_put_st {w : World} {r : Nat} {l : List StM} (x : StM) (hx : x ∉ l) (v : Value) (hv : v = .int .i64 (l.length : Nat)) (hg : w.heap[r]? = some (.map (entsS l 0).toArray l.length)) : (Instr.mapUpdate 57 (.map (some r)) (stV x) v).run Tryz.prog w = .ok () (w.putObj r (.map (entsS (l ++ [x]) 0).toArray (l.length + 1))) := by
  subst hv
  unfold Instr.mapUpdate
  have hf := run_find_st x w l
  rw [if_neg hx] at hf
  simp [Sem.run_bind, run_underlying (P := Tryz.prog) Tryz.underlying57, getObj_run hg, run_check_st, hf, setObj_put hg, entsS_snoc]
end Go.Proofs.YtpggamapmgpjcaaGreatDoor
