/- A part of the claim: see its last text. -/
import Derived.Test.YtcfogipaadhbeaaGreatDoorUK05
import Derived.Test.YtcfogipaadhbeaaGreatDoorUK01
import Derived.RangeFuncOwn
import Derived.Orders
import Derived.OrdersHeld
import Derived.Deep.RegionHeld

set_option maxRecDepth 100000
set_option maxHeartbeats 16000000
namespace Go.Proofs.YtcfogipaadhbeaaGreatDoor
open Go Go.RowKit Go.Proofs
structure KeyK (α : Type) where
 desc : TypeDesc
 kv : α → Value
 same : ∀ a b, ∃ q, Instr.sameNow desc (kv a) (kv b) = some q ∧ (q = true ↔ a = b)
 check : ∀ {P : Program} {K : TypeId}, P.underlying K = some desc → ∀ (e : Bool) (n : Nat) (a : α) (w : World), (Instr.checkKey e (n + 1) K (kv a)).run P w = .ok () w
 stays : ∀ {P : Program} (a : α) (w : World), (Instr.keyThatStays (kv a) (kv a)).run P w = .ok (kv a) w
def keyInt : KeyK Int where
 desc := .int .i64
 kv := .int .i64
 same a b := ⟨a == b, by simp [Instr.sameNow], by simp⟩
 check h e n a w := checkKey_int h e n a w
 stays a w := by
  unfold Instr.keyThatStays
  rw [if_pos (by simp [Instr.sameBits])]
  rfl
theorem findKey_run {P : Program} {KT : TypeId} {d : TypeDesc} {k : Value} {es : List MapEntry} {a : Option (Nat × Value)} {w : World} (hd : P.underlying KT = some d) (h : Instr.findNow d k es 0 = some a) : (Instr.findKey KT k es).run P w = .ok a w := by
 unfold Instr.findKey
 simp [Sem.run_bind, run_underlying hd, h]
theorem str_beq (a b : ByteArray) : (a == b) = true ↔ a = b := by
 obtain ⟨x⟩ := a
 obtain ⟨y⟩ := b
 show (x == y) = true ↔ _
 simp
def keyStr : KeyK ByteArray where
 desc := .string
 kv := .string
 same a b := ⟨a == b, by simp [Instr.sameNow], str_beq a b⟩
 check h e n a w := by
  unfold Instr.checkKey
  simp [Sem.run_bind, run_underlying h]
 stays a w := by
  unfold Instr.keyThatStays
  rw [if_pos (by simp [Instr.sameBits, str_beq])]
  rfl
section
variable {α : Type} (K : KeyK α)
def KVs (es : List MapEntry) (l : List (α × Value)) : Prop := es.map (fun e => (e.key, e.val)) = l.map fun p => (K.kv p.1, p.2)
def AM (w : World) (r : Nat) (l : List (α × Value)) : Prop := ∃ es c, w.heap[r]? = some (.map es c) ∧ KVs K es.toList l
variable {K} {w : World} {r : Nat} {l : List (α × Value)}
theorem AM.lt (h : AM K w r l) : r < w.heap.size := by
 obtain ⟨es, c, h, _⟩ := h
 exact (Array.getElem?_eq_some_iff.1 h).1
theorem AM.keep {w' : World} (h : AM K w r l) (e : w'.heap[r]? = w.heap[r]?) : AM K w' r l := by
 obtain ⟨es, c, h, k⟩ := h
 exact ⟨es, c, e.trans h, k⟩
theorem AM.new (w : World) : AM K (w.alloc (.map #[] 0)) w.heap.size [] := ⟨#[], 0, heap_alloc_new w _, rfl⟩
end
section
variable {α : Type} [DecidableEq α] (K : KeyK α)
def getA (l : List (α × Value)) (k : α) : Option Value := (l.find? fun p => decide (p.1 = k)).map (·.2)
def putA (l : List (α × Value)) (k : α) (v : Value) : List (α × Value) := match l.findIdx? (fun p => decide (p.1 = k)) with | some i => l.set i (k, v) | none => l ++ [(k, v)]
theorem find_kvs (k : α) : ∀ (es : List MapEntry) (l : List (α × Value)) (i : Nat), KVs K es l → Instr.findNow K.desc (K.kv k) es i = some (match l.findIdx? (fun p => decide (p.1 = k)) with | some j => (l[j]?).map fun p => (i + j, p.2) | none => none)
 | [], [], _, _ => rfl
 | [], _ :: _, _, h => by simp [KVs] at h
 | _ :: _, [], _, h => by simp [KVs] at h
 | e :: es, p :: l, i, h => by
   simp only [KVs, List.map_cons, List.cons.injEq, Prod.mk.injEq] at h
   obtain ⟨⟨h1, h2⟩, h3⟩ := h
   obtain ⟨q, hq, hiff⟩ := K.same k p.1
   unfold Instr.findNow
   rw [h1, hq, List.findIdx?_cons]
   cases q
   · have hne : ¬ p.1 = k := fun e => by have := hiff.2 e.symm; cases this
     have ih := find_kvs k es l (i + 1) h3
     simp only [decide_eq_false hne, Bool.false_eq_true, if_false]
     rw [ih]
     cases l.findIdx? (fun p => decide (p.1 = k)) with
     | none => rfl
     | some j =>
       simp only [Option.map_some, List.getElem?_cons_succ]
       rw [show i + 1 + j = i + (j + 1) by omega]
   · have he : p.1 = k := (hiff.1 rfl).symm
     simp [he, h2]
theorem getA_idx (l : List (α × Value)) (k : α) : getA l k = match l.findIdx? (fun p => decide (p.1 = k)) with | some j => (l[j]?).map (·.2) | none => none := by
 unfold getA
 cases hi : l.findIdx? (fun p => decide (p.1 = k)) with
 | none =>
   have := List.findIdx?_eq_none_iff.1 hi
   rw [List.find?_eq_none.2 (fun x hx => by simpa using this x hx)]
   rfl
 | some j =>
   obtain ⟨hl, hp, hb⟩ := List.findIdx?_eq_some_iff_getElem.1 hi
   have : l.find? (fun p => decide (p.1 = k)) = some l[j] := by
    rw [List.find?_eq_some_iff_getElem]
    exact ⟨hp, j, hl, rfl, fun x hx => by have := hb x hx; simpa using this⟩
   rw [this]
   show _ = (l[j]?).map _
   rw [List.getElem?_eq_getElem hl]
variable {K} {w : World} {r : Nat} {l : List (α × Value)}
theorem AM.look {P : Program} {t KT E : TypeId} {z : Value} (h : AM K w r l) (ht : P.underlying t = some (.map KT E)) (hk : P.underlying KT = some K.desc) (hz : (zeroValue E).run P w = .ok z w) (k : α) :
    (Instr.lookup t (.map (some r)) (K.kv k) true).run P w = .ok (.tuple #[(getA l k).getD z, .bool (getA l k).isSome]) w := by
 obtain ⟨es, c, hg, hK⟩ := h
 have hf := find_kvs K k es.toList l 0 hK
 unfold Instr.lookup
 have hfk : (Instr.findKey KT (K.kv k) es.toList).run P w = .ok (match l.findIdx? (fun p => decide (p.1 = k)) with | some j => (l[j]?).map fun p => (0 + j, p.2) | none => none) w := findKey_run hk hf
 simp only [Sem.run_bind, run_underlying ht, getObj_run hg, Result.andThen_ok, Sem.run_pure, K.check hk es.isEmpty 9999 k w, hfk]
 rw [getA_idx]
 cases hi : l.findIdx? (fun p => decide (p.1 = k)) with
 | none => simp [hz]
 | some j =>
   obtain ⟨hl, _, _⟩ := List.findIdx?_eq_some_iff_getElem.1 hi
   simp [List.getElem?_eq_getElem hl]
theorem AM.look1 {P : Program} {t KT E : TypeId} {z : Value} (h : AM K w r l) (ht : P.underlying t = some (.map KT E)) (hk : P.underlying KT = some K.desc) (hz : (zeroValue E).run P w = .ok z w) (k : α) :
    (Instr.lookup t (.map (some r)) (K.kv k) false).run P w = .ok ((getA l k).getD z) w := by
 obtain ⟨es, c, hg, hK⟩ := h
 have hf := find_kvs K k es.toList l 0 hK
 unfold Instr.lookup
 have hfk : (Instr.findKey KT (K.kv k) es.toList).run P w = .ok (match l.findIdx? (fun p => decide (p.1 = k)) with | some j => (l[j]?).map fun p => (0 + j, p.2) | none => none) w := findKey_run hk hf
 simp only [Sem.run_bind, run_underlying ht, getObj_run hg, Result.andThen_ok, Sem.run_pure, K.check hk es.isEmpty 9999 k w, hfk]
 rw [getA_idx]
 cases hi : l.findIdx? (fun p => decide (p.1 = k)) with
 | none => simp [hz]
 | some j =>
   obtain ⟨hl, _, _⟩ := List.findIdx?_eq_some_iff_getElem.1 hi
   simp [List.getElem?_eq_getElem hl]
theorem AM.put {P : Program} {t KT E : TypeId} (h : AM K w r l) (ht : P.underlying t = some (.map KT E)) (hk : P.underlying KT = some K.desc) (k : α) (v : Value) :
    ∃ es' c', (Instr.mapUpdate t (.map (some r)) (K.kv k) v).run P w = .ok () (w.putObj r (.map es' c')) ∧ KVs K es'.toList (putA l k v) := by
 obtain ⟨es, c, hg, hK⟩ := h
 have hf := find_kvs K k es.toList l 0 hK
 have hfk : (Instr.findKey KT (K.kv k) es.toList).run P w = .ok (match l.findIdx? (fun p => decide (p.1 = k)) with | some j => (l[j]?).map fun p => (0 + j, p.2) | none => none) w := findKey_run hk hf
 cases hi : l.findIdx? (fun p => decide (p.1 = k)) with
 | none =>
   rw [hi] at hfk
   refine ⟨es.push { key := K.kv k, val := v, born := c }, c + 1, ?_, ?_⟩
   · unfold Instr.mapUpdate
     simp [Sem.run_bind, run_underlying ht, getObj_run hg, K.check hk, hfk, setObj_put hg]
   · unfold putA
     rw [hi]
     simp only [KVs] at hK ⊢
     simp [hK]
 | some j =>
   obtain ⟨hl, hp, _⟩ := List.findIdx?_eq_some_iff_getElem.1 hi
   have hkj : l[j].1 = k := of_decide_eq_true hp
   rw [hi] at hfk
   simp only [List.getElem?_eq_getElem hl, Option.map_some, Nat.zero_add] at hfk
   have hlen : es.size = l.length := by have := congrArg List.length hK; simpa using this
   have hej : es[j]? = some (es[j]'(by omega)) := by simp [hlen, hl]
   have hkey : (es[j]'(by omega)).key = K.kv k := by
    have h1 := congrArg (fun x => x[j]?) hK
    simp [hlen, hl] at h1
    rw [h1.1, hkj]
   refine ⟨es.modify j fun e => { e with key := K.kv k, val := v }, c, ?_, ?_⟩
   · unfold Instr.mapUpdate
     simp [Sem.run_bind, run_underlying ht, getObj_run hg, K.check hk, hfk, hej, hkey, K.stays, setObj_put hg]
   · unfold putA
     rw [hi]
     simp only [KVs] at hK ⊢
     apply List.ext_getElem?
     intro i
     have h1 := congrArg (fun x => x[i]?) hK
     simp only [List.getElem?_map] at h1
     simp only [Array.toList_modify, List.getElem?_map, List.getElem?_modify, List.getElem?_set]
     by_cases e : j = i
     · subst e
       simp [hlen, hl]
     · simp only [e, if_false]
       simpa using h1
end
section
variable {α : Type} [DecidableEq α]
theorem putA_cons (p : α × Value) (l : List (α × Value)) (k : α) (v : Value) : putA (p :: l) k v = if p.1 = k then (k, v) :: l else p :: putA l k v := by
 unfold putA
 rw [List.findIdx?_cons]
 by_cases h : p.1 = k
 · simp [h]
 · simp only [decide_eq_false h, Bool.false_eq_true, if_false, if_neg h]
   cases l.findIdx? (fun p => decide (p.1 = k)) with
   | none => rfl
   | some i => rfl
theorem getA_cons (p : α × Value) (l : List (α × Value)) (k : α) : getA (p :: l) k = if p.1 = k then some p.2 else getA l k := by
 unfold getA
 rw [List.find?_cons]
 by_cases h : p.1 = k <;> simp [h]
theorem getA_put (k j : α) (v : Value) : ∀ l : List (α × Value), getA (putA l k v) j = if k = j then some v else getA l j
 | [] => by
   show getA [(k, v)] j = _
   rw [getA_cons]
 | p :: l => by
   rw [putA_cons, getA_cons]
   by_cases h : p.1 = k
   · rw [if_pos h, getA_cons]
     by_cases e : k = j
     · simp [e]
     · simp [e, h]
   · rw [if_neg h, getA_cons, getA_put k j v l]
     by_cases e : k = j
     · subst e; simp [h]
     · simp [e]
theorem putA_new {l : List (α × Value)} {k : α} (h : getA l k = none) (v : Value) : putA l k v = l ++ [(k, v)] := by
 induction l with
 | nil => rfl
 | cons p l ih =>
   rw [getA_cons] at h
   by_cases e : p.1 = k
   · simp [e] at h
   · rw [if_neg e] at h
     rw [putA_cons, if_neg e, ih h]; rfl
end
section
variable {P : Program} {ops : Array Oper} {Q : Exit → Act → World → Prop}
def unl (listed : Array Bool) : Nat := (listed.toList.filter fun b => !b).length
theorem unl_set {listed : Array Bool} {i : Nat} (hi : i < listed.size) (h : listed.getD i true = false) : unl (listed.setIfInBounds i true) + 1 = unl listed := by
 obtain ⟨l⟩ := listed
 simp only [unl, List.setIfInBounds_toArray] at *
 induction l generalizing i with
 | nil => simp at hi
 | cons b l ih =>
   cases i with
   | zero =>
     simp at h
     subst h
     simp
   | succ i =>
     have := ih (i := i) (by simpa using hi) (by simpa using h)
     cases b
     · simp at this ⊢; omega
     · simpa using this
theorem unl_zero {listed : Array Bool} (h : unl listed = 0) (i : Nat) (hi : i < listed.size) : listed.getD i false = true := by
 unfold unl at h
 have h2 : (listed.toList.filter fun b => !b) = [] := List.eq_nil_of_length_eq_zero h
 rw [List.filter_eq_nil_iff] at h2
 have := h2 listed[i] (by simp)
 simp [hi]
 simpa using this
def backB (ops : Array Oper) : Bool := ops.toList.zipIdx.all fun x => x.1.after.all fun e => !Region.binds .any e || decide (e.on < x.2)
theorem back_spec (h : backB ops = true) {i : Nat} {o : Oper} (ho : ops[i]? = some o) : ∀ e ∈ o.after, Region.binds .any e = true → e.on < i := fun e he hb => by
 have hm : (o, i) ∈ ops.toList.zipIdx := by
  rw [List.mem_iff_getElem?]
  exact ⟨i, by simp [List.getElem?_zipIdx, ho]⟩
 have := List.all_eq_true.1 h _ hm
 rw [Array.all_eq_true_iff_forall_mem] at this
 have := this e he
 simpa [hb] using this
theorem all_listed (hb : backB ops = true) {listed : Array Bool} (hs : listed.size = ops.size) (h : Region.ready .any ops listed = []) : ∀ i, i < ops.size → listed.getD i false = true := by
 intro i
 induction i using Nat.strongRecOn with
 | ind i ih =>
   intro hi
   cases hl : listed.getD i false with
   | true => rfl
   | false =>
     exfalso
     have : i ∈ Region.ready .any ops listed := mem_ready.2 ⟨by simp [hs, hi] at hl ⊢; exact hl, ops[i], by simp [hi], fun e he hbd => by
      have := back_spec hb (by simp [hi] : ops[i]? = some ops[i]) e he hbd
      exact ih e.on this (by omega)⟩
     rw [h] at this
     cases this
theorem wpAny_inv (I : Array Bool → Act → World → Prop) (hb : backB ops = true)
    (hstep : ∀ i o, ops[i]? = some o → ∀ listed a w, I listed a w → listed.size = ops.size → listed.getD i true = false → (∀ e ∈ o.after, Region.binds .any e = true → listed.getD e.on false = true) → wpOp P ops Q i (fun a' w' => I (listed.setIfInBounds i true) a' w') a w)
    (hend : ∀ listed a w, I listed a w → (∀ i, i < ops.size → listed.getD i false = true) → Q .normal a w) :
    ∀ (fuel : Nat) (listed : Array Bool) (a : Act) (w : World), unl listed ≤ fuel → listed.size = ops.size → I listed a w → wpAny P .any ops Q fuel listed a w
 | 0, listed, a, w, hf, hs, h => by
   have hall : ∀ i, i < ops.size → listed.getD i false = true := fun i hi => unl_zero (by omega) i (by omega)
   refine ⟨?_, hend listed a w h hall⟩
   cases hr : Region.ready .any ops listed with
   | nil => rfl
   | cons i rs =>
     exfalso
     have : i ∈ Region.ready .any ops listed := by rw [hr]; exact List.mem_cons_self ..
     obtain ⟨h1, o, ho, _⟩ := mem_ready.1 this
     have hi : i < ops.size := (Array.getElem?_eq_some_iff.1 ho).1
     have h2 := hall i hi
     simp [hs, hi] at h1 h2
     rw [h1] at h2
     cases h2
 | fuel + 1, listed, a, w, hf, hs, h => by
   refine ⟨fun hr => hend listed a w h (all_listed hb hs hr), fun i hi => ?_⟩
   obtain ⟨h1, o, ho, hd⟩ := mem_ready.1 hi
   have hil : i < ops.size := (Array.getElem?_eq_some_iff.1 ho).1
   refine wpOp_mono (fun a' w' h' => wpAny_inv I hb hstep hend fuel _ a' w' ?_ (by simpa using hs) h') (hstep i o ho listed a w h hs h1 hd)
   have := unl_set (by omega) h1
   omega
theorem unl_replicate (n : Nat) : unl (Array.replicate n false) = n := by simp [unl]
theorem wp_region_inv {id : Nat} {a : Act} {w : World} (I : Array Bool → Act → World → Prop) (hm : P.follows .mixedOrders = true) (hb : backB ops = true)
    (h0 : I (Array.replicate ops.size false) a w.drew)
    (hstep : ∀ x ∈ ops.toList.zipIdx, ∀ listed a w, I listed a w → listed.size = ops.size → listed.getD x.2 true = false → (∀ e ∈ x.1.after, Region.binds .any e = true → listed.getD e.on false = true) → wpOp P ops Q x.2 (fun a' w' => I (listed.setIfInBounds x.2 true) a' w') a w)
    (hend : ∀ listed a w, I listed a w → (∀ i, i < ops.size → listed.getD i false = true) → Q .normal a w) : (Code.region id ops true).wp P Q a w :=
 wp_region_any hm (wpAny_inv I hb (fun i o ho => hstep (o, i) (by rw [List.mem_iff_getElem?]; exact ⟨i, by simp [List.getElem?_zipIdx, ho]⟩)) hend ops.size _ a _ (by rw [unl_replicate]; exact Nat.le_refl _) (by simp) h0)
theorem wpOp_at {i : Nat} {o : Oper} {a : Act} {w : World} {K : Act → World → Prop} (ho : ops[i]? = some o) (hg : o.guard = none) (h : o.wp P a w K Q) : wpOp P ops Q i K a w := by
 unfold wpOp
 rw [ho]
 simp only [Region.wanted, hg, if_true]
 exact .inl h
end
/-! worlds in which all cells stay -/
structure Kc (w w' : World) : Prop where
 size : w.heap.size ≤ w'.heap.size
 blk : ∀ g T cs, Blk w g T cs → Blk w' g T cs
theorem Kc.refl (w : World) : Kc w w := ⟨Nat.le_refl _, fun _ _ _ h => h⟩
theorem Kc.of_below {w w' : World} (h : Below w.heap.size w w') : Kc w w' := ⟨h.size, fun _ _ _ hB => hB.below h hB.lt⟩
theorem Kc.put {w : World} {r : Nat} {es : Array MapEntry} {c : Nat} {o : Obj} (h : w.heap[r]? = some (.map es c)) : Kc w (w.putObj r o) := by
 refine ⟨by simp [World.putObj], fun g T cs hB => ?_⟩
 have hne : g ≠ r := by
  rintro rfl
  rw [Blk, h] at hB
  cases hB
 exact (World.putObj_heap_other hne).trans hB
def tabOf (tab : List (Nat × Int × Nat)) (listed : Array Bool) (v : Nat → Value) (k : Int) : Option Value := (tab.find? fun x => decide (x.2.1 = k) && listed.getD x.1 false).map fun x => v x.2.2
def upd (v : Nat → Value) (d : Nat) (u : Value) : Nat → Value := fun i => if i = d then u else v i
theorem getD_set_self {listed : Array Bool} {i : Nat} {b : Bool} (h : i < listed.size) : (listed.setIfInBounds i true).getD i b = true := by simp [h]
theorem getD_set_oth {listed : Array Bool} {i j : Nat} {b : Bool} (h : i ≠ j) : (listed.setIfInBounds i true).getD j b = listed.getD j b := by
 rw [getD_set_ne b h]
theorem find_congr {α : Type} {p q : α → Bool} : ∀ {l : List α}, (∀ x ∈ l, p x = q x) → l.find? p = l.find? q
 | [], _ => rfl
 | a :: l, h => by rw [List.find?_cons, List.find?_cons, h a (List.mem_cons_self ..), find_congr fun x hx => h x (List.mem_cons_of_mem _ hx)]
theorem tabOf_other {tab : List (Nat × Int × Nat)} {listed : Array Bool} {v v' : Nat → Value} {i : Nat} (h1 : ∀ x ∈ tab, x.1 ≠ i) (h2 : ∀ x ∈ tab, listed.getD x.1 false = true → v' x.2.2 = v x.2.2) (k : Int) : tabOf tab (listed.setIfInBounds i true) v' k = tabOf tab listed v k := by
 unfold tabOf
 rw [find_congr (q := fun x => decide (x.2.1 = k) && listed.getD x.1 false) (fun x hx => by rw [getD_set_oth (Ne.symm (h1 x hx))])]
 cases hf : tab.find? (fun x => decide (x.2.1 = k) && listed.getD x.1 false) with
 | none => rfl
 | some x =>
   have hx := List.mem_of_find?_eq_some hf
   have hp := List.find?_some hf
   simp only [Bool.and_eq_true] at hp
   simp only [Option.map_some, h2 x hx hp.2]
theorem tabOf_put {tab : List (Nat × Int × Nat)} {listed : Array Bool} {v : Nat → Value} {i s : Nat} {k : Int} (hi : i < listed.size) (hm : (i, k, s) ∈ tab) (hk : ∀ x ∈ tab, x.2.1 = k → x = (i, k, s)) (hn : ∀ x ∈ tab, x.1 = i → x = (i, k, s)) (j : Int) : tabOf tab (listed.setIfInBounds i true) v j = if k = j then some (v s) else tabOf tab listed v j := by
 unfold tabOf
 by_cases e : k = j
 · subst e
   rw [if_pos rfl]
   have h1 : tab.find? (fun x => decide (x.2.1 = k) && (listed.setIfInBounds i true).getD x.1 false) = some (i, k, s) := by
    cases hf : tab.find? (fun x => decide (x.2.1 = k) && (listed.setIfInBounds i true).getD x.1 false) with
    | none =>
      have := List.find?_eq_none.1 hf _ hm
      simp [hi] at this
    | some x =>
      have hx := List.mem_of_find?_eq_some hf
      have hp := List.find?_some hf
      simp only [Bool.and_eq_true, decide_eq_true_eq] at hp
      rw [hk x hx hp.1]
   rw [h1]; rfl
 · rw [if_neg e]
   rw [find_congr (q := fun x => decide (x.2.1 = j) && listed.getD x.1 false) (fun x hx => by
    by_cases hxi : x.1 = i
    · have := hn x hx hxi
      subst this
      simp [e]
    · rw [getD_set_oth (Ne.symm hxi)])]
theorem wp_insert {P : Program} {o : Oper} {a : Act} {w : World} {K : Act → World → Prop} {Q : Exit → Act → World → Prop} {t KT E : TypeId} {m v : Operand} {k : Int} {r : Nat} {l : List (Int × Value)}
    (ho : o.op = .insert t m (.const (.int .i64 k)) v) (hd : o.dst = none) (hm : a.eval m = .map (some r)) (hA : AM keyInt w r l) (ht : P.underlying t = some (.map KT E)) (hk : P.underlying KT = some (.int .i64))
    (h : ∀ es c, w.heap[r]? = some (.map es c) → ∀ es' c', AM keyInt (w.putObj r (.map es' c')) r (putA l k (a.eval v)) → K a (w.putObj r (.map es' c'))) : o.wp P a w K Q := by
 obtain ⟨es', c', hrun, hkv⟩ := hA.put (P := P) ht hk k (a.eval v)
 obtain ⟨es, c, hg, _⟩ := hA
 have hkk : a.eval (.const (.int .i64 k)) = .int .i64 k := rfl
 rw [show (keyInt.kv k) = Value.int .i64 k from rfl] at hrun
 unfold Oper.wp execOp
 simp only [ho, hm, hkk, Sem.run_bind, hrun, Result.andThen_ok, Sem.run_pure, Oper.upon_skip, hd]
 exact h es c hg es' c' ⟨es', c', World.putObj_heap_same (Array.getElem?_eq_some_iff.1 hg).1, hkv⟩
structure Km (w w' : World) : Prop where
 size : w.heap.size ≤ w'.heap.size
 blk : ∀ g, g < w.heap.size → w'.heap[g]? = w.heap[g]?
theorem Km.refl (w : World) : Km w w := ⟨Nat.le_refl _, fun _ _ => rfl⟩
theorem Km.of_below {w w' : World} (h : Below w.heap.size w w') : Km w w' := ⟨h.size, h.block⟩
theorem Km.kc {w w' : World} (h : Km w w') : Kc w w' := ⟨h.size, fun g _T _cs hB => (h.blk g hB.lt).trans hB⟩
structure LitI (N L ms : Nat) (sl src : Nat → Nat) (Gv : Nat → Value → World → Prop) (tab : List (Nat × Int × Nat)) (w0 : World) (listed : Array Bool) (v : Nat → Value) (w : World) : Prop where
 ext : Below w0.heap.size w0 w
 g : ∀ j, j < N → listed.getD j false = true → Gv j (v (sl j)) w
 dep : ∀ x ∈ tab, listed.getD x.1 false = true → listed.getD (src x.1) false = true ∧ listed.getD 0 false = true
 m : listed.getD 0 false = true → ∃ r l, v ms = .map (some r) ∧ w0.heap.size ≤ r ∧ AM keyInt w r l ∧ ∀ k, getA l k = tabOf tab listed v k
 last : listed.getD L false = true → ∀ j, j < L → listed.getD j false = true
structure LitOk (N L ms : Nat) (sl src : Nat → Nat) (tab : List (Nat × Int × Nat)) : Prop where
 inj : ∀ i, i < N → ∀ j, j < N → sl i = sl j → i = j
 m0 : sl 0 = ms
 t1 : ∀ x ∈ tab, src x.1 < x.1 ∧ x.1 < L ∧ sl (src x.1) = x.2.2
 t2 : ∀ x ∈ tab, ∀ y ∈ tab, x.2.1 = y.2.1 → x = y
 t3 : ∀ x ∈ tab, ∀ y ∈ tab, x.1 = y.1 → x = y
 t4 : ∀ x ∈ tab, ∀ y ∈ tab, src x.1 ≠ y.1
 lt : L < N
 l0 : 0 < L
section
variable {N L ms : Nat} {sl src : Nat → Nat} {Gv : Nat → Value → World → Prop} {tab : List (Nat × Int × Nat)} {w0 w w' : World} {listed : Array Bool} {v : Nat → Value}
theorem getD_ft {listed : Array Bool} {i : Nat} (h : i < listed.size) (b : Bool) : listed.getD i b = listed.getD i false := by simp [h]
theorem LitI.start (w0 : World) (Hd : Below w0.heap.size w0 w) : LitI N L ms sl src Gv tab w0 (Array.replicate N false) v w := by
 have h : ∀ j, (Array.replicate N false).getD j false = false := fun j => by
  simp only [Array.getD_eq_getD_getElem?, Array.getElem?_replicate]
  split <;> rfl
 refine ⟨Hd, fun j _ hj => ?_, fun x _ hx => ?_, fun hj => ?_, fun hj => ?_⟩
 · rw [h] at hj; cases hj
 · rw [h] at hx; cases hx
 · rw [h] at hj; cases hj
 · rw [h] at hj; cases hj
theorem LitI.val (K : LitOk N L ms sl src tab) (h : LitI N L ms sl src Gv tab w0 listed v w) (hs : listed.size = N) {i : Nat} (hi : i < N) (h0 : i ≠ 0) (hn : ∀ x ∈ tab, x.1 ≠ i) (hun : listed.getD i true = false) {u : Value}
    (hm : Km w w') (he : Below w0.heap.size w0 w') (hg : ∀ j u, Gv j u w → Gv j u w') (hu : Gv i u w') (hL : i = L → ∀ j, j < L → listed.getD j false = true) :
    LitI N L ms sl src Gv tab w0 (listed.setIfInBounds i true) (upd v (sl i) u) w' := by
 have hun2 : listed.getD i false = false := by rw [← getD_ft (by omega) true]; exact hun
 refine ⟨he, fun j hj hl => ?_, fun x hx hl => ?_, fun hl => ?_, fun hl j hj => ?_⟩
 · by_cases e : j = i
   · subst e
     unfold upd
     rw [if_pos rfl]
     exact hu
   · rw [getD_set_oth (Ne.symm e)] at hl
     unfold upd
     rw [if_neg (fun e2 => e (K.inj j hj i hi e2))]
     exact hg _ _ (h.g j hj hl)
 · rw [getD_set_oth (Ne.symm (hn x hx))] at hl
   obtain ⟨d1, d2⟩ := h.dep x hx hl
   constructor
   · rw [getD_set_oth (fun e => by rw [e, d1] at hun2; cases hun2)]; exact d1
   · rw [getD_set_oth h0]; exact d2
 · rw [getD_set_oth h0] at hl
   obtain ⟨r, l, e1, e2, e3, e4⟩ := h.m hl
   refine ⟨r, l, ?_, e2, e3.keep (hm.blk r e3.lt), fun k => ?_⟩
   · unfold upd
     rw [if_neg (fun e => h0 (K.inj i hi 0 (by have := K.lt; omega) (by rw [K.m0]; exact e.symm)))]
     exact e1
   · rw [e4, tabOf_other hn (fun x hx hl => ?_)]
     obtain ⟨t1, t2, t3⟩ := K.t1 x hx
     unfold upd
     rw [if_neg]
     rw [← t3]
     intro e
     have := K.inj (src x.1) (by have := K.lt; omega) i hi e
     have d1 := (h.dep x hx hl).1
     rw [this, hun2] at d1
     cases d1
 · by_cases e : L = i
   · by_cases e2 : j = i
     · subst e2; omega
     · rw [getD_set_oth (Ne.symm e2)]; exact hL e.symm j hj
   · rw [getD_set_oth (Ne.symm e)] at hl
     by_cases e2 : j = i
     · subst e2; rw [getD_set_self (by omega)]
     · rw [getD_set_oth (Ne.symm e2)]; exact h.last hl j hj
theorem LitI.map_ (K : LitOk N L ms sl src tab) (h : LitI N L ms sl src Gv tab w0 listed v w) (hs : listed.size = N) (hun : listed.getD 0 true = false)
    (hg : ∀ j u, Gv j u w → Gv j u (w.alloc (.map #[] 0))) (hu : Gv 0 (.map (some w.heap.size)) (w.alloc (.map #[] 0))) :
    LitI N L ms sl src Gv tab w0 (listed.setIfInBounds 0 true) (upd v ms (.map (some w.heap.size))) (w.alloc (.map #[] 0)) := by
 have hN : 0 < N := by have := K.lt; omega
 have hun2 : listed.getD 0 false = false := by rw [← getD_ft (by omega) true]; exact hun
 have hn : ∀ x ∈ tab, x.1 ≠ 0 := fun x hx => by have := (K.t1 x hx).1; omega
 refine ⟨h.ext.alloc h.ext.size _, fun j hj hl => ?_, fun x hx hl => ?_, fun _ => ?_, fun hl j hj => ?_⟩
 · by_cases e : j = 0
   · subst e
     rw [K.m0]
     unfold upd
     rw [if_pos rfl]
     exact hu
   · rw [getD_set_oth (Ne.symm e)] at hl
     unfold upd
     rw [if_neg (fun e2 => e (K.inj j hj 0 hN (by rw [K.m0]; exact e2)))]
     exact hg _ _ (h.g j hj hl)
 · rw [getD_set_oth (Ne.symm (hn x hx))] at hl
   obtain ⟨d1, d2⟩ := h.dep x hx hl
   rw [d2] at hun2; cases hun2
 · refine ⟨w.heap.size, [], by unfold upd; rw [if_pos rfl], h.ext.size, AM.new w, fun k => ?_⟩
   show none = _
   unfold tabOf
   rw [List.find?_eq_none.2 (fun x hx => by
    have : (listed.setIfInBounds 0 true).getD x.1 false = false := by
     rw [getD_set_oth (Ne.symm (hn x hx))]
     cases hl : listed.getD x.1 false with
     | false => rfl
     | true => have := (h.dep x hx hl).2; rw [hun2] at this; cases this
    rw [this]; simp)]
   rfl
 · have hL : L ≠ 0 := by have := K.l0; omega
   rw [getD_set_oth (Ne.symm hL)] at hl
   have := h.last hl 0 K.l0
   rw [hun2] at this; cases this
theorem LitI.ins (K : LitOk N L ms sl src tab) (h : LitI N L ms sl src Gv tab w0 listed v w) (hs : listed.size = N) {i s r : Nat} {k : Int} (hx : (i, k, s) ∈ tab) (hun : listed.getD i true = false) (hd1 : listed.getD (src i) false = true) (hd0 : listed.getD 0 false = true)
    {l : List (Int × Value)} {es es' : Array MapEntry} {c c' : Nat} (hr : v ms = .map (some r)) (hge : w0.heap.size ≤ r) (_hw : w.heap[r]? = some (.map es c)) (hl4 : ∀ k, getA l k = tabOf tab listed v k)
    (hA : AM keyInt (w.putObj r (.map es' c')) r (putA l k (v s))) (hg : ∀ j u, j ≠ L → Gv j u w → Gv j u (w.putObj r (.map es' c'))) (hgi : ∀ u, Gv i u (w.putObj r (.map es' c'))) :
    LitI N L ms sl src Gv tab w0 (listed.setIfInBounds i true) v (w.putObj r (.map es' c')) := by
 obtain ⟨t1, t2, t3⟩ := K.t1 _ hx
 have hiN : i < N := by have := K.lt; simp only at t2; omega
 have hun2 : listed.getD i false = false := by rw [← getD_ft (by omega) true]; exact hun
 have hLf : listed.getD L false = false := by
  cases hl : listed.getD L false with
  | false => rfl
  | true => have := h.last hl i t2; rw [hun2] at this; cases this
 refine ⟨h.ext.grown (grownBy_putObj' _ _ _) h.ext.size (fun g e => by cases e; exact hge), fun j hj hl => ?_, fun x hy hl => ?_, fun _ => ?_, fun hl j hj => ?_⟩
 · by_cases e : j = i
   · subst e; exact hgi _
   · rw [getD_set_oth (Ne.symm e)] at hl
     exact hg _ _ (fun e2 => by rw [e2, hLf] at hl; cases hl) (h.g j hj hl)
 · have key : listed.getD (src x.1) false = true ∧ listed.getD 0 false = true → (listed.setIfInBounds i true).getD (src x.1) false = true ∧ (listed.setIfInBounds i true).getD 0 false = true := fun ⟨d1, d2⟩ =>
     ⟨by rw [getD_set_oth (fun e => K.t4 x hy _ hx e.symm)]; exact d1, by rw [getD_set_oth (fun e => by simp only at t1; omega)]; exact d2⟩
   by_cases e : x.1 = i
   · exact key ⟨by rw [e]; exact hd1, hd0⟩
   · rw [getD_set_oth (Ne.symm e)] at hl
     exact key (h.dep x hy hl)
 · refine ⟨r, _, hr, hge, hA, fun j => ?_⟩
   rw [getA_put, hl4 j, tabOf_put (by omega) hx (fun y hy e => K.t2 y hy _ hx e) (fun y hy e => K.t3 y hy _ hx e)]
 · rw [getD_set_oth (fun e => by simp only at t2; omega), hLf] at hl
   cases hl
end
def typsA : List TypeId := [9, 69, 71, 73, 49, 62, 3, 53]
structure KX (w w' : World) : Prop where
 size : w.heap.size ≤ w'.heap.size
 maps : ∀ (r : Nat) (es : Array MapEntry) (c : Nat), w.heap[r]? = some (.map es c) → w'.heap[r]? = some (.map es c)
 blk : ∀ g T cs, T ∉ typsA → Blk w g T cs → Blk w' g T cs
theorem KX.trans {a b c : World} (h : KX a b) (k : KX b c) : KX a c := ⟨Nat.le_trans h.size k.size, fun r es n e => k.maps r es n (h.maps r es n e), fun g T cs hT hB => k.blk g T cs hT (h.blk g T cs hT hB)⟩
theorem KX.of_below {w w' : World} (h : Below w.heap.size w w') : KX w w' := ⟨h.size, fun r _es _c e => (h.block r (Array.getElem?_eq_some_iff.1 e).1).trans e, fun _g _T _cs _ hB => hB.below h hB.lt⟩
theorem KX.row {w w' : World} {row : Option Nat} {T : TypeId} (hg : w.grownBy w' row) (hT : RowT w row T) (h : T ∈ typsA) : KX w w' := by
 refine ⟨hg.size, fun r es c e => (hg.block r (Array.getElem?_eq_some_iff.1 e).1 (fun e2 => ?_)).trans e, fun g T2 cs hT2 hB => (hg.block g hB.lt (fun e2 => ?_)).trans hB⟩
 · obtain ⟨cs, hb⟩ := hT r e2.symm
   rw [Blk, e] at hb
   cases hb
 · obtain ⟨cs2, hb⟩ := hT g e2.symm
   rw [Blk] at hb hB
   rw [hB] at hb
   simp at hb
   exact hT2 (hb.2 ▸ h)
theorem KX.set_ {w : World} {g : Nat} {T : TypeId} {cs : Array Value} (hB : Blk w g T cs) (h : T ∈ typsA) (i : Nat) (u : Value) : KX w (w.setCell ⟨g, i, none⟩ u) :=
 KX.row (row := some g) (T := T) (But.set_ (B := w.heap.size) w i u).grown (fun k e => by cases e; exact ⟨cs, hB⟩) h
def resC (mt : Nat) (V : MV) (m : Mod) : Array Value := #[.map (some mt), V.s, V.f, V.r, V.m, V.l, V.i, .int .i64 m.dT, .int .i64 m.oT, .int .i64 m.vT, .int .i64 m.aT, V.u]
structure AD (B br mt : Nat) (w : World) (V : MV) (m : Mod) : Prop where
 blk : Blk w br 53 (resC mt V m)
 rm : RM B w V m
 hB : B ≤ br
theorem AD.below {B br mt : Nat} {w w' : World} {V : MV} {m : Mod} (h : AD B br mt w V m) (hb : Below w.heap.size w w') : AD B br mt w' V m := ⟨h.blk.below hb h.blk.lt, h.rm.below hb, h.hB⟩
theorem AD.put {B br mt : Nat} {w : World} {V V' : MV} {m m' : Mod} (hb : Blk w br 53 (resC mt V m)) (hB : B ≤ br) (h : RM B w V' m') {i : Nat} {u : Value} (e : (resC mt V m).setIfInBounds i u = resC mt V' m') : AD B br mt (w.setCell ⟨br, i, none⟩ u) V' m' :=
 ⟨by have := hb.set_ i u; rwa [e] at this, h.put hb (by decide) i u, hB⟩
def AdnQ (B br mt : Nat) (w : World) (m' : Mod) (e : Ending) (w' : World) : Prop := e = .returned (.tuple #[]) ∧ (∃ V', AD B br mt w' V' m') ∧ Below B w w' ∧ KX w w'
theorem AD.cells {B br mt : Nat} {w : World} {V : MV} {m : Mod} (h : AD B br mt w V m) : w.cell? ⟨br, 0, none⟩ = some (.map (some mt)) ∧ w.cell? ⟨br, 1, none⟩ = some V.s ∧ w.cell? ⟨br, 2, none⟩ = some V.f ∧ w.cell? ⟨br, 3, none⟩ = some V.r ∧ w.cell? ⟨br, 4, none⟩ = some V.m ∧ w.cell? ⟨br, 5, none⟩ = some V.l ∧ w.cell? ⟨br, 6, none⟩ = some V.i ∧
    w.cell? ⟨br, 7, none⟩ = some (.int .i64 m.dT) ∧ w.cell? ⟨br, 8, none⟩ = some (.int .i64 m.oT) ∧ w.cell? ⟨br, 9, none⟩ = some (.int .i64 m.vT) ∧ w.cell? ⟨br, 10, none⟩ = some (.int .i64 m.aT) ∧ w.cell? ⟨br, 11, none⟩ = some V.u :=
 ⟨h.blk.cell 0, h.blk.cell 1, h.blk.cell 2, h.blk.cell 3, h.blk.cell 4, h.blk.cell 5, h.blk.cell 6, h.blk.cell 7, h.blk.cell 8, h.blk.cell 9, h.blk.cell 10, h.blk.cell 11⟩
end Go.Proofs.YtcfogipaadhbeaaGreatDoor
