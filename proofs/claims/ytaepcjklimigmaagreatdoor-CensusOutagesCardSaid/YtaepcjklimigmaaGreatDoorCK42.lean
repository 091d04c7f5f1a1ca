/- A part of the claim: see its last text. -/
import Derived.Test.YtaepcjklimigmaaGreatDoorCK22
import Derived.Test.YtaepcjklimigmaaGreatDoorCK29
import Derived.Test.YtaepcjklimigmaaGreatDoorCK15
import Derived.Test.YtaepcjklimigmaaGreatDoorCK11
import Derived.Deep.RegionHeld3
import Derived.Test.YtaepcjklimigmaaGreatDoorCK10

set_option maxRecDepth 100000
set_option maxHeartbeats 16000000
namespace Go.Proofs.YtaepcjklimigmaaGreatDoor
open Go Go.RowKit Go.Proofs
def insD (ds : List Int) (k : Int) : List Int := if k ∈ ds then ds else ds ++ [k]
def delD (ds : List Int) (k : Int) : List Int := match ds.findIdx? (fun d => decide (k = d)) with | some j => ds.eraseIdx j | none => ds
theorem insD_mem (ds : List Int) (k x : Int) : x ∈ insD ds k ↔ x ∈ ds ∨ x = k := by
 unfold insD
 split
 · rename_i h
   exact ⟨.inl, fun h2 => by rcases h2 with h2 | rfl; exact h2; exact h⟩
 · simp
theorem insD_nodup {ds : List Int} (h : ds.Nodup) (k : Int) : (insD ds k).Nodup := by
 unfold insD
 split
 · exact h
 · rename_i hk
   rw [List.nodup_append]
   refine ⟨h, by simp, fun a ha b hb => ?_⟩
   obtain rfl : b = k := by simpa using hb
   intro e; subst e; exact hk ha
theorem delD_mem {ds : List Int} (h : ds.Nodup) (k x : Int) : x ∈ delD ds k ↔ x ∈ ds ∧ x ≠ k := by
 unfold delD
 cases hf : ds.findIdx? (fun d => decide (k = d)) with
 | none =>
   rw [List.findIdx?_eq_none_iff] at hf
   exact ⟨fun hx => ⟨hx, fun e => by have := hf x hx; simp at this; exact this e.symm⟩, fun hx => hx.1⟩
 | some j =>
   rw [List.findIdx?_eq_some_iff_getElem] at hf
   obtain ⟨hj, hp, _⟩ := hf
   have hk : ds[j] = k := by simpa using (of_decide_eq_true hp).symm
   have e : ds = ds.take j ++ k :: ds.drop (j + 1) := by rw [← hk, ← List.drop_eq_getElem_cons hj, List.take_append_drop]
   have h2 := h
   rw [e, List.nodup_append, List.nodup_cons] at h2
   obtain ⟨_, ⟨hn1, _⟩, hn2⟩ := h2
   simp only
   rw [List.eraseIdx_eq_take_drop_succ]
   constructor
   · intro hx
     refine ⟨?_, fun ex => ?_⟩
     · rcases List.mem_append.1 hx with h3 | h3
       · exact List.mem_of_mem_take h3
       · exact List.mem_of_mem_drop h3
     · subst ex
       rcases List.mem_append.1 hx with h3 | h3
       · exact hn2 x h3 x (by simp) rfl
       · exact hn1 h3
   · rintro ⟨hx, hne⟩
     rw [e] at hx
     rcases List.mem_append.1 hx with h3 | h3
     · exact List.mem_append.2 (.inl h3)
     · rcases List.mem_cons.1 h3 with h4 | h4
       · exact absurd h4 hne
       · exact List.mem_append.2 (.inr h4)
theorem delD_nodup {ds : List Int} (h : ds.Nodup) (k : Int) : (delD ds k).Nodup := by
 unfold delD
 split
 · exact h.sublist (List.eraseIdx_sublist _ _)
 · exact h
theorem map_erase {α β : Type} (f : α → β) : ∀ (l : List α) (j : Nat), (l.eraseIdx j).map f = (l.map f).eraseIdx j
 | [], _ => by simp
 | a :: l, 0 => by simp
 | a :: l, j + 1 => by simp [map_erase f l j]
def KeysD (es : List MapEntry) (ds : List Int) : Prop := es.map (fun e => (e.key, e.val)) = ds.map (fun k => (Value.int .i64 k, Value.bool true))
theorem find_keys (k : Int) : ∀ (es : List MapEntry) (ds : List Int) (i : Nat), KeysD es ds → Instr.findNow (.int .i64) (.int .i64 k) es i = some ((ds.findIdx? (fun d => decide (k = d))).map fun j => (i + j, Value.bool true))
 | [], [], _, _ => rfl
 | [], _ :: _, _, h => by simp [KeysD] at h
 | _ :: _, [], _, h => by simp [KeysD] at h
 | e :: es, d :: ds, i, h => by
   simp only [KeysD, List.map_cons, List.cons.injEq, Prod.mk.injEq] at h
   obtain ⟨⟨h1, h2⟩, h3⟩ := h
   unfold Instr.findNow
   rw [List.findIdx?_cons]
   by_cases hk : k = d
   · subst hk
     simp [h1, h2, Instr.sameNow]
   · rw [h1, sameNow_ne hk]
     have := find_keys k es ds (i + 1) h3
     simp only
     rw [this, if_neg (by simpa using hk)]
     cases ds.findIdx? (fun d => decide (k = d)) with
     | none => rfl
     | some j => simp; omega
def DnM (w : World) (r : Nat) (ds : List Int) : Prop := ∃ es c, w.heap[r]? = some (.map es c) ∧ KeysD es.toList ds ∧ ds.Nodup
theorem DnM.lt {w : World} {r : Nat} {ds : List Int} (h : DnM w r ds) : r < w.heap.size := by
 obtain ⟨es, c, h, _⟩ := h
 exact (Array.getElem?_eq_some_iff.1 h).1
theorem DnM.keep {w w' : World} {r : Nat} {ds : List Int} (h : DnM w r ds) (e : w'.heap[r]? = w.heap[r]?) : DnM w' r ds := by
 obtain ⟨es, c, h, k⟩ := h
 exact ⟨es, c, e.trans h, k⟩
theorem DnM.look {P : Program} {w : World} {t K E : TypeId} {r : Nat} {ds : List Int} (h : DnM w r ds) (ht : P.underlying t = some (.map K E)) (hk : P.underlying K = some (.int .i64)) (hz : (zeroValue E).run P w = .ok (.bool false) w) (k : Int) :
    (Instr.lookup t (.map (some r)) (.int .i64 k) false).run P w = .ok (.bool (decide (k ∈ ds))) w := by
 obtain ⟨es, c, hg, hK, _⟩ := h
 refine run_lookup_int1 (b := decide (k ∈ ds)) ht hk hz hg (find_keys k es.toList ds 0 hK) ?_
 cases hf : ds.findIdx? (fun d => decide (k = d)) with
 | none =>
   rw [List.findIdx?_eq_none_iff] at hf
   have : k ∉ ds := fun hm => by have := hf k hm; simp at this
   simp [pickO, this]
 | some j =>
   rw [List.findIdx?_eq_some_iff_getElem] at hf
   obtain ⟨hj, hp, _⟩ := hf
   have : k ∈ ds := by rw [of_decide_eq_true hp]; exact List.getElem_mem hj
   simp [pickO, this]
theorem DnM.update {P : Program} {w : World} {t K E : TypeId} {r : Nat} {ds : List Int} (h : DnM w r ds) (ht : P.underlying t = some (.map K E)) (hk : P.underlying K = some (.int .i64)) (k : Int) :
    ∃ es' c', (Instr.mapUpdate t (.map (some r)) (.int .i64 k) (.bool true)).run P w = .ok () (w.putObj r (.map es' c')) ∧ KeysD es'.toList (insD ds k) ∧ (insD ds k).Nodup := by
 obtain ⟨es, c, hg, hK, hN⟩ := h
 have hfk := find_keys k es.toList ds 0 hK
 cases hf : ds.findIdx? (fun d => decide (k = d)) with
 | none =>
   rw [hf] at hfk
   have hf2 := hf
   rw [List.findIdx?_eq_none_iff] at hf2
   have hnm : k ∉ ds := fun hm => by have := hf2 k hm; simp at this
   refine ⟨_, _, run_update_new ht hk hg hfk, ?_, insD_nodup hN k⟩
   unfold insD
   rw [if_neg hnm]
   simp only [KeysD] at hK ⊢
   simp [hK]
 | some j =>
   rw [hf] at hfk
   have hf2 := hf
   rw [List.findIdx?_eq_some_iff_getElem] at hf2
   obtain ⟨hj, hp, _⟩ := hf2
   have hkj : k = ds[j] := of_decide_eq_true hp
   have hm : k ∈ ds := by rw [hkj]; exact List.getElem_mem hj
   have hlen : es.size = ds.length := by have := congrArg List.length hK; simpa using this
   have hej : es[j]? = some (es[j]'(by omega)) := by simp [hlen, hj]
   have hkey : (es[j]'(by omega)).key = .int .i64 k := by
    have h1 := congrArg (fun x => x[j]?) hK
    simp [hlen, hj] at h1
    rw [h1.1, hkj]
   refine ⟨es.modify j fun e => { e with key := .int .i64 k, val := .bool true }, c, ?_, ?_, insD_nodup hN k⟩
   · unfold Instr.mapUpdate
     have hks : ∀ W : World, (Instr.keyThatStays (.int .i64 k) (.int .i64 k)).run P W = .ok (.int .i64 k) W := fun W => by
      unfold Instr.keyThatStays
      rw [if_pos (by simp [Instr.sameBits])]
      rfl
     simp only [Option.map_some, Nat.zero_add] at hfk
     simp [Sem.run_bind, run_underlying ht, getObj_run hg, checkKey_int hk, run_findKey_int hk k es.toList hfk, hej, hkey, hks, setObj_put hg]
   · unfold insD
     rw [if_pos hm]
     simp only [KeysD] at hK ⊢
     rw [← hK]
     apply List.ext_getElem?
     intro i
     simp only [Array.toList_modify, List.getElem?_map, List.getElem?_modify]
     by_cases hi : j = i
     · subst hi
       have h1 := congrArg (fun x => x[j]?) hK
       simp [hlen, hj] at h1
       simp [hlen, hj, h1.1, h1.2, hkj]
     · simp [hi]
theorem DnM.delete {P : Program} {w : World} {t K E : TypeId} {r : Nat} {ds : List Int} (h : DnM w r ds) (ht : P.underlying t = some (.map K E)) (hk : P.underlying K = some (.int .i64)) (k : Int) (ty : TypeId) :
    ∃ es' c', (Builtin.delete_ #[t, K] ty #[.map (some r), .int .i64 k]).run P w = .ok (.tuple #[]) (w.putObj r (.map es' c')) ∧ KeysD es'.toList (delD ds k) ∧ (delD ds k).Nodup := by
 obtain ⟨es, c, hg, hK, hN⟩ := h
 have hfk := find_keys k es.toList ds 0 hK
 cases hf : ds.findIdx? (fun d => decide (k = d)) with
 | none =>
   rw [hf] at hfk
   refine ⟨es, c, ?_, by simpa [delD, hf] using hK, delD_nodup hN k⟩
   unfold Builtin.delete_
   simp [Sem.run_bind, run_underlying ht, getObj_run hg, checkKey_int hk, run_findKey_int hk k es.toList hfk, setObj_put hg]
 | some j =>
   rw [hf] at hfk
   refine ⟨es.eraseIdxIfInBounds j, c, ?_, ?_, delD_nodup hN k⟩
   · unfold Builtin.delete_
     simp only [Option.map_some, Nat.zero_add] at hfk
     simp [Sem.run_bind, run_underlying ht, getObj_run hg, checkKey_int hk, run_findKey_int hk k es.toList hfk, setObj_put hg]
   · have hj := (List.findIdx?_eq_some_iff_getElem.1 hf).1
     have hlen : es.size = ds.length := by have := congrArg List.length hK; simpa using this
     simp only [KeysD] at hK ⊢
     unfold delD
     rw [hf]
     simp only
     rw [show (es.eraseIdxIfInBounds j).toList = es.toList.eraseIdx j by simp [Array.eraseIdxIfInBounds, hlen, hj], map_erase, hK, map_erase]
theorem DnM.put {w : World} {r : Nat} {ds : List Int} {es : Array MapEntry} {c : Nat} (hr : r < w.heap.size) (h1 : KeysD es.toList ds) (h2 : ds.Nodup) : DnM (w.putObj r (.map es c)) r ds := ⟨es, c, World.putObj_heap_same hr, h1, h2⟩
/-! plain -/
def dnStep (e : EvM) (ds : List Int) : List Int := if e.kind = 6 then insD ds e.mach else if e.kind = 7 then delD ds e.mach else ds
def dnTo (l : List EvM) : Nat → List Int
 | 0 => []
 | i + 1 => match l[i]? with | some e => dnStep e (dnTo l i) | none => dnTo l i
theorem dnTo_succ {l : List EvM} {i : Nat} (hi : i < l.length) : dnTo l (i + 1) = dnStep l[i] (dnTo l i) := by simp [dnTo, hi]
theorem dnTo_nodup (l : List EvM) : ∀ i, (dnTo l i).Nodup
 | 0 => by simp [dnTo]
 | i + 1 => by
   unfold dnTo
   split
   · unfold dnStep
     split
     · exact insD_nodup (dnTo_nodup l i) _
     · split
       · exact delD_nodup (dnTo_nodup l i) _
       · exact dnTo_nodup l i
   · exact dnTo_nodup l i
def upsOf (on ds : List Int) : Nat := (on.filter fun k => !decide (k ∈ ds)).length
theorem upsOf_le (on ds : List Int) : upsOf on ds ≤ on.length := List.length_filter_le _ _
theorem upsOf_succ (on ds : List Int) {k : Nat} (hk : k < on.length) : upsOf (on.take (k + 1)) ds = upsOf (on.take k) ds + if on[k] ∈ ds then 0 else 1 := by
 unfold upsOf
 rw [List.take_succ_eq_append_getElem hk, List.filter_append, List.length_append]
 split <;> rename_i h <;> simp [h]
def runStep (on ds : List Int) (run : Int) : Int := if (on.length : Int) < 2 * (upsOf on ds : Int) then 0 else run + 1
def runTo (m : Mod) (l : List EvM) (item : Int) : Nat → Int
 | 0 => 0
 | i + 1 => runStep (machinesP (placeAt m l (i + 1)) item 0) (dnTo l (i + 1)) (runTo m l item i)
def mostTo (m : Mod) (l : List EvM) (item : Int) : Nat → Int
 | 0 => 0
 | i + 1 => max (mostTo m l item i) (runTo m l item (i + 1))
theorem runTo_rng (m : Mod) (l : List EvM) (item : Int) : ∀ i, 0 ≤ runTo m l item i ∧ runTo m l item i ≤ i
 | 0 => by simp [runTo]
 | i + 1 => by
   have := runTo_rng m l item i
   unfold runTo runStep
   split <;> omega
theorem mostTo_rng (m : Mod) (l : List EvM) (item : Int) : ∀ i, 0 ≤ mostTo m l item i ∧ mostTo m l item i ≤ i
 | 0 => by simp [mostTo]
 | i + 1 => by
   have := mostTo_rng m l item i
   have := runTo_rng m l item (i + 1)
   unfold mostTo
   omega
def outageM (m : Mod) (l : List EvM) (item : Int) : Int := if kindI m item = 0 then mostTo m l item l.length else 0
/-! memory -/
structure OgV (w0 : World) (A : Option Addr) (n c : Nat) (item : Int) (bl bd r bi bn bo : Nat) (ds : List Int) (run most : Int) (W : World) : Prop where
 b : Below w0.heap.size w0 W
 lb : Blk W bl 30 #[.slice A n c]
 mb : Blk W bd 83 #[.map (some r)]
 dm : DnM W r ds
 ib : Blk W bi 3 #[.int .i64 item]
 nb : Blk W bn 3 #[.int .i64 run]
 ob : Blk W bo 3 #[.int .i64 most]
theorem OgV.grow {w0 : World} {A : Option Addr} {n c : Nat} {item : Int} {bl bd r bi bn bo : Nat} {ds : List Int} {run most : Int} {W W' : World} (s : OgV w0 A n c item bl bd r bi bn bo ds run most W) (hb : Below W.heap.size W W') : OgV w0 A n c item bl bd r bi bn bo ds run most W' :=
 ⟨s.b.trans (hb.mono s.b.size), s.lb.below hb s.lb.lt, s.mb.below hb s.mb.lt, s.dm.keep (hb.block r s.dm.lt), s.ib.below hb s.ib.lt, s.nb.below hb s.nb.lt, s.ob.below hb s.ob.lt⟩
theorem OgV.put {w0 : World} {A : Option Addr} {n c : Nat} {item : Int} {bl bd r bi bn bo : Nat} {ds ds' : List Int} {run most : Int} {W : World} {es : Array MapEntry} {k : Nat} (s : OgV w0 A n c item bl bd r bi bn bo ds run most W) (hr : w0.heap.size ≤ r) (h1 : KeysD es.toList ds') (h2 : ds'.Nodup) :
    OgV w0 A n c item bl bd r bi bn bo ds' run most (W.putObj r (.map es k)) := by
 obtain ⟨es0, c0, hg, _⟩ := s.dm
 have hk := fun T => KT.putObj_ (T := T) W r _ (.map es k) hg rfl
 exact ⟨s.b.grown (grownBy_putObj' W r _) s.b.size (fun g e => by cases e; exact hr), (hk _).2 _ _ s.lb, (hk _).2 _ _ s.mb, DnM.put s.dm.lt h1 h2, (hk _).2 _ _ s.ib, (hk _).2 _ _ s.nb, (hk _).2 _ _ s.ob⟩
theorem OgV.keys {w0 : World} {A : Option Addr} {n c : Nat} {item : Int} {bl bd r bi bn bo : Nat} {ds : List Int} {run most : Int} {W : World} (s : OgV w0 A n c item bl bd r bi bn bo ds run most W) (T : TypeId) (es : Array MapEntry) (k : Nat) : KT T W (W.putObj r (.map es k)) := by
 obtain ⟨es0, c0, hg, _⟩ := s.dm
 exact KT.putObj_ W r _ (.map es k) hg rfl
theorem OgV.heap_r {w0 : World} {A : Option Addr} {n c : Nat} {item : Int} {bl bd r bi bn bo : Nat} {ds : List Int} {run most : Int} {W : World} (s : OgV w0 A n c item bl bd r bi bn bo ds run most W) {g : Nat} {T : TypeId} {cs : Array Value} (h : Blk W g T cs) : r ≠ g := fun e => by
 obtain ⟨es0, c0, hg, _⟩ := s.dm
 rw [e, show W.heap[g]? = _ from h] at hg
 cases hg
theorem OgV.turned {w0 : World} {A : Option Addr} {n c : Nat} {item : Int} {bl bd r bi bn bo : Nat} {ds : List Int} {run most : Int} {W : World} (s : OgV w0 A n c item bl bd r bi bn bo ds run most W) (hn : w0.heap.size ≤ bn) (h1 : bi ≠ bn) (h2 : bn ≠ bo) (run' : Int) :
    OgV w0 A n c item bl bd r bi bn bo ds run' most (W.setCell ⟨bn, 0, none⟩ (.int .i64 run')) := by
 have hrn := s.heap_r s.nb
 refine ⟨s.b.setCell (by simpa using hn) _, s.lb.far (blk_ne s.lb s.nb (by decide)) _, s.mb.far (blk_ne s.mb s.nb (by decide)) _, s.dm.keep (Below.heap_setCell W ⟨bn, 0, none⟩ _ r (by simpa using hrn)), s.ib.far h1 _, by simpa using s.nb.set_ 0 (.int .i64 run'), s.ob.far (by simpa using fun e => h2 e.symm) _⟩
theorem OgV.turned2 {w0 : World} {A : Option Addr} {n c : Nat} {item : Int} {bl bd r bi bn bo : Nat} {ds : List Int} {run most : Int} {W : World} (s : OgV w0 A n c item bl bd r bi bn bo ds run most W) (hn : w0.heap.size ≤ bo) (h1 : bi ≠ bo) (h2 : bn ≠ bo) (most' : Int) :
    OgV w0 A n c item bl bd r bi bn bo ds run most' (W.setCell ⟨bo, 0, none⟩ (.int .i64 most')) := by
 have hrn := s.heap_r s.ob
 refine ⟨s.b.setCell (by simpa using hn) _, s.lb.far (blk_ne s.lb s.ob (by decide)) _, s.mb.far (blk_ne s.mb s.ob (by decide)) _, s.dm.keep (Below.heap_setCell W ⟨bo, 0, none⟩ _ r (by simpa using hrn)), s.ib.far h1 _, s.nb.far h2 _, by simpa using s.ob.set_ 0 (.int .i64 most')⟩
theorem VisR.cellI {B0 bp : Nat} {W : World} {g : Nat} {cs : Array Value} (h : Blk W g 3 cs) (hg : B0 ≤ g) (v : Value) : VisR B0 bp W (W.setCell ⟨g, 0, none⟩ v) :=
 ⟨(Below.refl _ _).setCell (by simpa using hg) _, KT.set_ h (by decide) 0 _, KT.set_ h (by decide) 0 _, KT.set_ h (by decide) 0 _, fun _ hB => hB.far (blk_ne hB h (by decide)) _⟩
theorem OgV.visit {w0 : World} {A : Option Addr} {n c : Nat} {item : Int} {bl bd r bi bn bo bp : Nat} {ds : List Int} {run most : Int} {W : World} (s : OgV w0 A n c item bl bd r bi bn bo ds run most W) (hr : w0.heap.size ≤ r) (es : Array MapEntry) (k : Nat) : VisR w0.heap.size bp W (W.putObj r (.map es k)) :=
 ⟨(Below.refl _ _).grown (grownBy_putObj' W r _) s.b.size (fun g e => by cases e; exact hr), s.keys _ es k, s.keys _ es k, s.keys _ es k, fun _ hB => (s.keys _ es k).2 _ _ hB⟩
structure OgT (w0 : World) (A : Option Addr) (n c : Nat) (item : Int) (bl bd r bi bn bo bp bb : Nat) (ds : List Int) (run most : Int) (A' : Option Addr) (c' : Nat) (q : PlaceM) (W W1 : World) : Prop where
 s : OgV w0 A n c item bl bd r bi bn bo ds run most W1
 v : VisR w0.heap.size bp W W1
 p : Blk W1 bb 64 #[.slice A' q.length c']
 t : PT W1 (.slice A' q.length c') q
theorem OgT.put {w0 : World} {A : Option Addr} {n c : Nat} {item : Int} {bl bd r bi bn bo bp bb : Nat} {ds ds' : List Int} {run most : Int} {A' : Option Addr} {c' : Nat} {q : PlaceM} {W W1 : World} {es : Array MapEntry} {k : Nat} (T : OgT w0 A n c item bl bd r bi bn bo bp bb ds run most A' c' q W W1) (hr : w0.heap.size ≤ r) (h1 : KeysD es.toList ds') (h2 : ds'.Nodup) :
    OgT w0 A n c item bl bd r bi bn bo bp bb ds' run most A' c' q W (W1.drew.putObj r (.map es k)) := by
 have hd := T.s.grow (Below.refl _ W1).drew
 exact ⟨hd.put hr h1 h2, (T.v.trans (VisR.ofBelow (Below.refl _ W1).drew T.s.b.size)).trans (hd.visit hr es k), (hd.keys _ es k).2 _ _ T.p, T.t.keep (hd.keys _ es k) (hd.keys _ es k)⟩
theorem zb (w : World) : (zeroValue 4).run Tryz.prog w = .ok (.bool false) w := by kernel_rfl
theorem outage1_prog (w0 : World) (l : List EvM) (A : Option Addr) (c : Nat) (item : Int) (bl bd r bi bn bo bp i : Nat) (ds : List Int) (run most : Int) (W : World) (A' : Option Addr) (c' : Nat) (q : PlaceM) (bb : Bool) (hs : OgV w0 A l.length c item bl bd r bi bn bo ds run most W)
    (hE : Rows encEv 22 w0 w0.heap.size A l) (hi : i < l.length) (_hl : l.length ≤ 60) (hp : PT W (.slice A' q.length c') q) (hq : Room 900 q) (hr : w0.heap.size ≤ r) (hn : w0.heap.size ≤ bn) (ho : w0.heap.size ≤ bo) (h1 : bi ≠ bn) (h2 : bn ≠ bo) (h3 : bi ≠ bo) (hrun : 0 ≤ run ∧ run ≤ 60) (hmost : 0 ≤ most ∧ most ≤ 60) :
    Calls Tryz.prog 56 #[.int .i64 i, .agg #[.slice A' q.length c'], .bool bb, .pointer (some ⟨bl, 0, none⟩), .pointer (some ⟨bd, 0, none⟩), .pointer (some ⟨bi, 0, none⟩), .pointer (some ⟨bn, 0, none⟩), .pointer (some ⟨bo, 0, none⟩)] W
     (TupR fun W' => OgV w0 A l.length c item bl bd r bi bn bo (dnStep l[i] ds) (runStep (machinesP q item 0) (dnStep l[i] ds) run) (max most (runStep (machinesP q item 0) (dnStep l[i] ds) run)) W' ∧ VisR w0.heap.size bp W W') := by
 obtain ⟨x, hx⟩ : ∃ x, l[i] = x := ⟨_, rfl⟩
 rw [hx]
 have hba : Below W.heap.size W (W.alloc (.cells #[.slice A' q.length c'] 64)) := (Below.refl _ _).alloc (Nat.le_refl _) _
 have hsa := hs.grow hba
 have HT := hide (show OgT w0 A l.length c item bl bd r bi bn bo bp W.heap.size ds run most A' c' q W (W.alloc (.cells #[.slice A' q.length c'] 64)) from ⟨hsa, VisR.ofBelow hba hs.b.size, Blk.new W _ _, hp.below hba⟩)
 obtain ⟨b, off, j, hAe, hb, _, _, _, hc⟩ := hE.ev hi hx
 have hcell := fun k u hu => (hsa.b.cell (p := ⟨b, off + i * 22 + k, none⟩) hb).trans (hc k u hu)
 have z0 : (W.alloc (.cells #[.slice A' q.length c'] 64)).cell? ⟨b, off + i * 22, none⟩ = some (.int .i64 x.kind) := hcell 0 _ rfl
 have z1 : (W.alloc (.cells #[.slice A' q.length c'] 64)).cell? ⟨b, off + i * 22 + 1, none⟩ = some (.int .i64 x.mach) := hcell 1 _ rfl
 have zl := Nat.lt_of_lt_of_le hb hsa.b.size
 have HZB := hide hb
 have l0 := hsa.lb.cell 0
 have ll := hsa.lb.lt
 have d0 := hsa.mb.cell 0
 have dl := hsa.mb.lt
 simp only [List.getElem?_toArray, List.getElem?_cons_zero] at l0 d0
 subst hAe
 have HPC := hide (fun (es' : Array MapEntry) (c2 : Nat) => (show ((W.alloc (.cells #[.slice A' q.length c'] 64)).drew.putObj r (.map es' c2)).cell? ⟨bd, 0, none⟩ = some (.map (some r)) ∧ ((W.alloc (.cells #[.slice A' q.length c'] 64)).drew.putObj r (.map es' c2)).cell? ⟨bl, 0, none⟩ = some (.slice (some ⟨b, off, none⟩) l.length c) ∧ ((W.alloc (.cells #[.slice A' q.length c'] 64)).drew.putObj r (.map es' c2)).cell? ⟨b, off + i * 22 + 1, none⟩ = some (.int .i64 x.mach) from by
  have hd := hsa.grow (Below.refl _ _).drew
  refine ⟨?_, ?_, ?_⟩
  · have := ((hd.keys 83 es' c2).2 _ _ hd.mb).cell 0; simpa using this
  · have := ((hd.keys 30 es' c2).2 _ _ hd.lb).cell 0; simpa using this
  · exact ((hd.visit (bp := 0) hr es' c2).b.cell (p := ⟨b, off + i * 22 + 1, none⟩) hb).trans z1))
 have HM := hide (fun W1 (hp1 : PT W1 (.slice A' q.length c') q) => pmachines_prog A' c' q item 0 W1 hp1 (by have := hq.1; omega) (by have := hq.unitsP item; omega))
 have hml : (machinesP q item 0).length ≤ 900 := Nat.le_trans (machinesP_len q item 0) (hq.unitsP item)
 have hiI : (i : Int) < (l.length : Int) := by omega
 have hi0 : (0 : Int) ≤ (i : Int) := by omega
 obtain ⟨on, hon⟩ : ∃ on, on = machinesP q item 0 := ⟨_, rfl⟩
 rw [← hon] at HM hml ⊢
 have HNE := hide (And.intro hr (And.intro hn (And.intro ho (And.intro h1 (And.intro h2 h3)))))
 have hB : ∀ b : Bool, b = false ∨ b = true := fun b => by cases b <;> simp
 have hdm := hsa.dm
 clear hs hp hq hc hcell hx hon hba h1 h2 h3
 rcases hB (x.kind == 6) with g6 | g6
 · rcases hB (x.kind == 7) with g7 | g7
   · have hst : dnStep x ds = ds := by simp at g6 g7; simp [dnStep, g6, g7]
     rw [hst]
     have HT1 := HT
     clear hst hsa hdm HT HPC
     have i0 := HT1.out.s.ib.cell 0
     have p0 := HT1.out.p.cell 0
     simp only [List.getElem?_toArray, List.getElem?_cons_zero] at i0 p0
     have HMC := hide (HM.out _ HT1.out.t)
     go_enter Tryz.func56, Tryz.ntmps56
     go_wp2_with (go_at_call 57; refine HMC.out.mono ?_; rintro e w2 ⟨v2, rfl, ho2, hb2⟩; obtain ⟨A2, k2, rfl, _, hI2⟩ := ho2.form; have HS2 := hide (HT1.out.s.grow hb2); have HV2 := hide (HT1.out.v.trans (VisR.ofBelow hb2 HT1.out.s.b.size)); have HI2 := hide hI2; have m0 := HS2.out.mb.cell 0; have n0 := HS2.out.nb.cell 0; have o0 := HS2.out.ob.cell 0; have nf := HS2.out.nb.frozen 0; have of := HS2.out.ob.frozen 0; have nl := HS2.out.nb.lt; have ol := HS2.out.ob.lt; simp only [List.getElem?_toArray, List.getElem?_cons_zero] at m0 n0 o0; clear ho2 hb2 hI2)
     go_loop [12, 41] (fun u iv => ∃ k : Nat, k ≤ on.length ∧ iv = .int .i64 k ∧ u = .int .i64 (upsOf (on.take k) ds)) (fun _ iv => on.length - (intOf iv).toNat)
     case atStart => exact ⟨0, Nat.zero_le _, rfl, rfl⟩
     case round =>
      obtain ⟨k, hk, rfl, rfl⟩ := hrel
      have hub := upsOf_le (on.take k) ds
      have hub2 : upsOf (on.take k) ds ≤ 900 := by rw [List.length_take] at hub; omega
      obtain ⟨uu, huu⟩ : ∃ uu, uu = upsOf (on.take k) ds := ⟨_, rfl⟩
      rw [← huu] at hub2
      by_cases hlt : k < on.length
      · obtain ⟨b9, off9, hA9, hb9, y0⟩ := int_at HI2.out hlt
        obtain ⟨y, hy⟩ : ∃ y, y = on[k] := ⟨_, rfl⟩
        rw [← hy] at y0
        have hlk := HS2.out.dm.look (P := Tryz.prog) Tryz.underlying83 Tryz.underlying3 (zb _) y
        have HUS := hide (upsOf_succ on ds hlt)
        rw [← hy, ← huu] at HUS
        rw [← huu]
        have HLT := hide hlt
        subst hA9
        clear hy hub
        rcases hB (decide (y ∈ ds)) with hd | hd
        · rw [hd] at hlk
          have HUY := hide (show (if y ∈ ds then 0 else 1) = 1 by rw [if_neg (by simpa using hd)])
          clear hd
          go_wp2_with fail
          go_round
          case rel => exact ⟨k + 1, HLT.out, by go_num, by rw [HUS.out, HUY.out]; go_num⟩
          case measure => have := HLT.out; simp [intOf]; omega
        · rw [hd] at hlk
          have HUY := hide (show (if y ∈ ds then 0 else 1) = 0 by rw [if_pos (by simpa using hd)])
          clear hd
          go_wp2_with fail
          go_round
          case rel => exact ⟨k + 1, HLT.out, by go_num, by rw [HUS.out, HUY.out]; rfl⟩
          case measure => have := HLT.out; simp [intOf]; omega
      · obtain rfl : k = on.length := by omega
        have HUU := hide huu
        rw [List.take_length] at HUU
        rw [← huu]
        have hru := hrun
        have hmo := hmost
        clear huu hub
        have hwr : IntKind.i64.wrap (2 * (uu : Int)) = 2 * (uu : Int) := by rw [IntKind.wrap_i64]; omega
        rcases hB (decide ((on.length : Int) < 2 * (uu : Int))) with hd | hd
        · have HRS := hide (show runStep on ds run = run + 1 by unfold runStep; rw [← HUU.out, if_neg (by simpa using hd)])
          have hne := HNE.out.2.2.2.2.1
          have hne2 : bo ≠ bn := fun e => hne e.symm
          go_wp2_with fail
          go_end0
          have s3 := HS2.out.turned HNE.out.2.1 HNE.out.2.2.2.1 HNE.out.2.2.2.2.1 (run + 1)
          rw [HRS.out]
          exact ⟨rfl, s3.turned2 HNE.out.2.2.1 HNE.out.2.2.2.2.2 HNE.out.2.2.2.2.1 _, (HV2.out.trans (VisR.cellI HS2.out.nb HNE.out.2.1 _)).trans (VisR.cellI s3.ob HNE.out.2.2.1 _)⟩
        · have HRS := hide (show runStep on ds run = 0 by unfold runStep; rw [← HUU.out, if_pos (by simpa using hd)])
          have hne := HNE.out.2.2.2.2.1
          have hne2 : bo ≠ bn := fun e => hne e.symm
          go_wp2_with fail
          go_end0
          have s3 := HS2.out.turned HNE.out.2.1 HNE.out.2.2.2.1 HNE.out.2.2.2.2.1 (run + 1)
          have s4 := s3.turned HNE.out.2.1 HNE.out.2.2.2.1 HNE.out.2.2.2.2.1 0
          rw [HRS.out]
          exact ⟨rfl, s4.turned2 HNE.out.2.2.1 HNE.out.2.2.2.2.2 HNE.out.2.2.2.2.1 _, ((HV2.out.trans (VisR.cellI HS2.out.nb HNE.out.2.1 _)).trans (VisR.cellI s3.nb HNE.out.2.1 _)).trans (VisR.cellI s4.ob HNE.out.2.2.1 _)⟩
   · have hst : dnStep x ds = delD ds x.mach := by simp at g7; simp [dnStep, g7]
     rw [hst]
     obtain ⟨dd, hdd⟩ : ∃ dd, dd = delD ds x.mach := ⟨_, rfl⟩
     obtain ⟨es', cU, hup, hk1, hk2⟩ := DnM.delete (P := Tryz.prog) (hdm.keep rfl : DnM (W.alloc (.cells #[.slice A' q.length c'] 64)).drew r ds) Tryz.underlying83 Tryz.underlying3 x.mach 0
     rw [← hdd] at hk1 hk2 ⊢
     have HT1 := hide (HT.out.put HNE.out.1 hk1 hk2 (k := cU))
     clear hst hsa hdm HT hdd hk1 hk2
     go_enter Tryz.func56, Tryz.ntmps56
     go_wp2_with fail
     refine wp_region_held_drew (S := (fun W => (W.cell? ⟨bd, 0, none⟩ = some (.map (some r)) ∧ W.cell? ⟨bl, 0, none⟩ = some (.slice (some ⟨b, off, none⟩) l.length c) ∧ W.cell? ⟨b, off + i * 22 + 1, none⟩ = some (.int .i64 x.mach)))) (by kernel_rfl) (⟨d0, l0, z1⟩) (fun hHeld => ?_)
     refine wpAnyH_take (i := 0) (oi := _) (v := ?_) rfl (by kernel_rfl) (by kernel_rfl) (by kernel_rfl) (fun _ _ _ h => h) (Or.inl ⟨by rfl, ?_⟩) hHeld ?_
     rotate_left
     · intro W hSw; (try dsimp only at hSw); go_simp; try with_reducible rfl
     simp only [Act.put, List.getElem_toArray, List.getElem_cons_zero, List.setIfInBounds_toArray, List.set_cons_zero, List.set_cons_succ]
     refine wpAnyH_take (i := 1) (oi := _) (v := ?_) rfl (by kernel_rfl) (by kernel_rfl) (by kernel_rfl) (fun _ _ _ h => h) (Or.inl ⟨by rfl, ?_⟩) hHeld ?_
     rotate_left
     · intro W hSw; (try dsimp only at hSw); go_simp; try with_reducible rfl
     simp only [Act.put, List.getElem_toArray, List.getElem_cons_succ, List.getElem_cons_zero, List.setIfInBounds_toArray, List.set_cons_zero, List.set_cons_succ]
     refine wpAnyH_take (i := 2) (oi := _) (v := ?_) rfl (by kernel_rfl) (by kernel_rfl) (by kernel_rfl) (fun _ _ _ h => h) (Or.inl ⟨by rfl, ?_⟩) hHeld ?_
     rotate_left
     · intro W hSw; (try dsimp only at hSw); go_simp; try with_reducible rfl
     simp only [Act.put, List.getElem_toArray, List.getElem_cons_succ, List.getElem_cons_zero, List.setIfInBounds_toArray, List.set_cons_zero, List.set_cons_succ]
     refine wpAnyH_take (i := 3) (oi := _) (v := ?_) rfl (by kernel_rfl) (by kernel_rfl) (by kernel_rfl) (fun _ _ _ h => h) (Or.inl ⟨by rfl, ?_⟩) hHeld ?_
     rotate_left
     · intro W hSw; (try dsimp only at hSw); go_simp; try with_reducible rfl
     simp only [Act.put, List.getElem_toArray, List.getElem_cons_succ, List.getElem_cons_zero, List.setIfInBounds_toArray, List.set_cons_zero, List.set_cons_succ]
     refine wpAnyH_take (i := 4) (oi := _) (v := ?_) rfl (by kernel_rfl) (by kernel_rfl) (by kernel_rfl) (fun _ _ _ h => h) (Or.inl ⟨by rfl, ?_⟩) hHeld ?_
     rotate_left
     · intro W hSw; (try dsimp only at hSw); go_simp; try with_reducible rfl
     simp only [Act.put, List.getElem_toArray, List.getElem_cons_succ, List.getElem_cons_zero, List.setIfInBounds_toArray, List.set_cons_zero, List.set_cons_succ]
     refine wpAnyH_take (i := 5) (oi := _) (v := ?_) rfl (by kernel_rfl) (by kernel_rfl) (by kernel_rfl) (fun _ _ _ h => h) (Or.inl ⟨by rfl, ?_⟩) hHeld ?_
     rotate_left
     · intro W hSw; (try dsimp only at hSw); go_simp; try with_reducible rfl
     simp only [Act.put, List.getElem_toArray, List.getElem_cons_succ, List.getElem_cons_zero, List.setIfInBounds_toArray, List.set_cons_zero, List.set_cons_succ]
     refine wpAnyH_ready (rs := [6]) (by kernel_rfl) (by simp) ?_
     refine AllReadyH.cons rfl (fun K hK => ?_) AllReadyH.nil
     go_simp
     refine hK.out _ _ (HPC.out es' cU) (fun hHeld => ?_)
     clear hK K
     refine wpAnyH_done (by kernel_rfl) ?_ _
     have i0 := HT1.out.s.ib.cell 0
     have p0 := HT1.out.p.cell 0
     simp only [List.getElem?_toArray, List.getElem?_cons_zero] at i0 p0
     have HMC := hide (HM.out _ HT1.out.t)
     go_wp2_with (go_at_call 57; refine HMC.out.mono ?_; rintro e w2 ⟨v2, rfl, ho2, hb2⟩; obtain ⟨A2, k2, rfl, _, hI2⟩ := ho2.form; have HS2 := hide (HT1.out.s.grow hb2); have HV2 := hide (HT1.out.v.trans (VisR.ofBelow hb2 HT1.out.s.b.size)); have HI2 := hide hI2; have m0 := HS2.out.mb.cell 0; have n0 := HS2.out.nb.cell 0; have o0 := HS2.out.ob.cell 0; have nf := HS2.out.nb.frozen 0; have of := HS2.out.ob.frozen 0; have nl := HS2.out.nb.lt; have ol := HS2.out.ob.lt; simp only [List.getElem?_toArray, List.getElem?_cons_zero] at m0 n0 o0; clear ho2 hb2 hI2)
     go_loop [12, 41] (fun u iv => ∃ k : Nat, k ≤ on.length ∧ iv = .int .i64 k ∧ u = .int .i64 (upsOf (on.take k) dd)) (fun _ iv => on.length - (intOf iv).toNat)
     case atStart => exact ⟨0, Nat.zero_le _, rfl, rfl⟩
     case round =>
      obtain ⟨k, hk, rfl, rfl⟩ := hrel
      have hub := upsOf_le (on.take k) dd
      have hub2 : upsOf (on.take k) dd ≤ 900 := by rw [List.length_take] at hub; omega
      obtain ⟨uu, huu⟩ : ∃ uu, uu = upsOf (on.take k) dd := ⟨_, rfl⟩
      rw [← huu] at hub2
      by_cases hlt : k < on.length
      · obtain ⟨b9, off9, hA9, hb9, y0⟩ := int_at HI2.out hlt
        obtain ⟨y, hy⟩ : ∃ y, y = on[k] := ⟨_, rfl⟩
        rw [← hy] at y0
        have hlk := HS2.out.dm.look (P := Tryz.prog) Tryz.underlying83 Tryz.underlying3 (zb _) y
        have HUS := hide (upsOf_succ on dd hlt)
        rw [← hy, ← huu] at HUS
        rw [← huu]
        have HLT := hide hlt
        subst hA9
        clear hy hub
        rcases hB (decide (y ∈ dd)) with hd | hd
        · rw [hd] at hlk
          have HUY := hide (show (if y ∈ dd then 0 else 1) = 1 by rw [if_neg (by simpa using hd)])
          clear hd
          go_wp2_with fail
          go_round
          case rel => exact ⟨k + 1, HLT.out, by go_num, by rw [HUS.out, HUY.out]; go_num⟩
          case measure => have := HLT.out; simp [intOf]; omega
        · rw [hd] at hlk
          have HUY := hide (show (if y ∈ dd then 0 else 1) = 0 by rw [if_pos (by simpa using hd)])
          clear hd
          go_wp2_with fail
          go_round
          case rel => exact ⟨k + 1, HLT.out, by go_num, by rw [HUS.out, HUY.out]; rfl⟩
          case measure => have := HLT.out; simp [intOf]; omega
      · obtain rfl : k = on.length := by omega
        have HUU := hide huu
        rw [List.take_length] at HUU
        rw [← huu]
        have hru := hrun
        have hmo := hmost
        clear huu hub
        have hwr : IntKind.i64.wrap (2 * (uu : Int)) = 2 * (uu : Int) := by rw [IntKind.wrap_i64]; omega
        rcases hB (decide ((on.length : Int) < 2 * (uu : Int))) with hd | hd
        · have HRS := hide (show runStep on dd run = run + 1 by unfold runStep; rw [← HUU.out, if_neg (by simpa using hd)])
          have hne := HNE.out.2.2.2.2.1
          have hne2 : bo ≠ bn := fun e => hne e.symm
          go_wp2_with fail
          go_end0
          have s3 := HS2.out.turned HNE.out.2.1 HNE.out.2.2.2.1 HNE.out.2.2.2.2.1 (run + 1)
          rw [HRS.out]
          exact ⟨rfl, s3.turned2 HNE.out.2.2.1 HNE.out.2.2.2.2.2 HNE.out.2.2.2.2.1 _, (HV2.out.trans (VisR.cellI HS2.out.nb HNE.out.2.1 _)).trans (VisR.cellI s3.ob HNE.out.2.2.1 _)⟩
        · have HRS := hide (show runStep on dd run = 0 by unfold runStep; rw [← HUU.out, if_pos (by simpa using hd)])
          have hne := HNE.out.2.2.2.2.1
          have hne2 : bo ≠ bn := fun e => hne e.symm
          go_wp2_with fail
          go_end0
          have s3 := HS2.out.turned HNE.out.2.1 HNE.out.2.2.2.1 HNE.out.2.2.2.2.1 (run + 1)
          have s4 := s3.turned HNE.out.2.1 HNE.out.2.2.2.1 HNE.out.2.2.2.2.1 0
          rw [HRS.out]
          exact ⟨rfl, s4.turned2 HNE.out.2.2.1 HNE.out.2.2.2.2.2 HNE.out.2.2.2.2.1 _, ((HV2.out.trans (VisR.cellI HS2.out.nb HNE.out.2.1 _)).trans (VisR.cellI s3.nb HNE.out.2.1 _)).trans (VisR.cellI s4.ob HNE.out.2.2.1 _)⟩
 · have hst : dnStep x ds = insD ds x.mach := by simp at g6; simp [dnStep, g6]
   rw [hst]
   obtain ⟨dd, hdd⟩ : ∃ dd, dd = insD ds x.mach := ⟨_, rfl⟩
   obtain ⟨es', cU, hup, hk1, hk2⟩ := DnM.update (P := Tryz.prog) (hdm.keep rfl : DnM (W.alloc (.cells #[.slice A' q.length c'] 64)).drew r ds) Tryz.underlying83 Tryz.underlying3 x.mach
   rw [← hdd] at hk1 hk2 ⊢
   have HT1 := hide (HT.out.put HNE.out.1 hk1 hk2 (k := cU))
   clear hst hsa hdm HT hdd hk1 hk2
   go_enter Tryz.func56, Tryz.ntmps56
   go_wp2_with fail
   refine wp_region_held_drew (S := (fun W => (W.cell? ⟨bd, 0, none⟩ = some (.map (some r)) ∧ W.cell? ⟨bl, 0, none⟩ = some (.slice (some ⟨b, off, none⟩) l.length c) ∧ W.cell? ⟨b, off + i * 22 + 1, none⟩ = some (.int .i64 x.mach)))) (by kernel_rfl) (⟨d0, l0, z1⟩) (fun hHeld => ?_)
   refine wpAnyH_take (i := 0) (oi := _) (v := ?_) rfl (by kernel_rfl) (by kernel_rfl) (by kernel_rfl) (fun _ _ _ h => h) (Or.inl ⟨by rfl, ?_⟩) hHeld ?_
   rotate_left
   · intro W hSw; (try dsimp only at hSw); go_simp; try with_reducible rfl
   simp only [Act.put, List.getElem_toArray, List.getElem_cons_zero, List.setIfInBounds_toArray, List.set_cons_zero, List.set_cons_succ]
   refine wpAnyH_take (i := 1) (oi := _) (v := ?_) rfl (by kernel_rfl) (by kernel_rfl) (by kernel_rfl) (fun _ _ _ h => h) (Or.inl ⟨by rfl, ?_⟩) hHeld ?_
   rotate_left
   · intro W hSw; (try dsimp only at hSw); go_simp; try with_reducible rfl
   simp only [Act.put, List.getElem_toArray, List.getElem_cons_succ, List.getElem_cons_zero, List.setIfInBounds_toArray, List.set_cons_zero, List.set_cons_succ]
   refine wpAnyH_take (i := 2) (oi := _) (v := ?_) rfl (by kernel_rfl) (by kernel_rfl) (by kernel_rfl) (fun _ _ _ h => h) (Or.inl ⟨by rfl, ?_⟩) hHeld ?_
   rotate_left
   · intro W hSw; (try dsimp only at hSw); go_simp; try with_reducible rfl
   simp only [Act.put, List.getElem_toArray, List.getElem_cons_succ, List.getElem_cons_zero, List.setIfInBounds_toArray, List.set_cons_zero, List.set_cons_succ]
   refine wpAnyH_take (i := 3) (oi := _) (v := ?_) rfl (by kernel_rfl) (by kernel_rfl) (by kernel_rfl) (fun _ _ _ h => h) (Or.inl ⟨by rfl, ?_⟩) hHeld ?_
   rotate_left
   · intro W hSw; (try dsimp only at hSw); go_simp; try with_reducible rfl
   simp only [Act.put, List.getElem_toArray, List.getElem_cons_succ, List.getElem_cons_zero, List.setIfInBounds_toArray, List.set_cons_zero, List.set_cons_succ]
   refine wpAnyH_take (i := 4) (oi := _) (v := ?_) rfl (by kernel_rfl) (by kernel_rfl) (by kernel_rfl) (fun _ _ _ h => h) (Or.inl ⟨by rfl, ?_⟩) hHeld ?_
   rotate_left
   · intro W hSw; (try dsimp only at hSw); go_simp; try with_reducible rfl
   simp only [Act.put, List.getElem_toArray, List.getElem_cons_succ, List.getElem_cons_zero, List.setIfInBounds_toArray, List.set_cons_zero, List.set_cons_succ]
   refine wpAnyH_take (i := 5) (oi := _) (v := ?_) rfl (by kernel_rfl) (by kernel_rfl) (by kernel_rfl) (fun _ _ _ h => h) (Or.inl ⟨by rfl, ?_⟩) hHeld ?_
   rotate_left
   · intro W hSw; (try dsimp only at hSw); go_simp; try with_reducible rfl
   simp only [Act.put, List.getElem_toArray, List.getElem_cons_succ, List.getElem_cons_zero, List.setIfInBounds_toArray, List.set_cons_zero, List.set_cons_succ]
   refine wpAnyH_ready (rs := [6]) (by kernel_rfl) (by simp) ?_
   refine AllReadyH.cons rfl (fun K hK => ?_) AllReadyH.nil
   go_simp
   refine hK.out _ _ (HPC.out es' cU) (fun hHeld => ?_)
   clear hK K
   refine wpAnyH_done (by kernel_rfl) ?_ _
   have i0 := HT1.out.s.ib.cell 0
   have p0 := HT1.out.p.cell 0
   simp only [List.getElem?_toArray, List.getElem?_cons_zero] at i0 p0
   have HMC := hide (HM.out _ HT1.out.t)
   go_wp2_with (go_at_call 57; refine HMC.out.mono ?_; rintro e w2 ⟨v2, rfl, ho2, hb2⟩; obtain ⟨A2, k2, rfl, _, hI2⟩ := ho2.form; have HS2 := hide (HT1.out.s.grow hb2); have HV2 := hide (HT1.out.v.trans (VisR.ofBelow hb2 HT1.out.s.b.size)); have HI2 := hide hI2; have m0 := HS2.out.mb.cell 0; have n0 := HS2.out.nb.cell 0; have o0 := HS2.out.ob.cell 0; have nf := HS2.out.nb.frozen 0; have of := HS2.out.ob.frozen 0; have nl := HS2.out.nb.lt; have ol := HS2.out.ob.lt; simp only [List.getElem?_toArray, List.getElem?_cons_zero] at m0 n0 o0; clear ho2 hb2 hI2)
   go_loop [12, 41] (fun u iv => ∃ k : Nat, k ≤ on.length ∧ iv = .int .i64 k ∧ u = .int .i64 (upsOf (on.take k) dd)) (fun _ iv => on.length - (intOf iv).toNat)
   case atStart => exact ⟨0, Nat.zero_le _, rfl, rfl⟩
   case round =>
    obtain ⟨k, hk, rfl, rfl⟩ := hrel
    have hub := upsOf_le (on.take k) dd
    have hub2 : upsOf (on.take k) dd ≤ 900 := by rw [List.length_take] at hub; omega
    obtain ⟨uu, huu⟩ : ∃ uu, uu = upsOf (on.take k) dd := ⟨_, rfl⟩
    rw [← huu] at hub2
    by_cases hlt : k < on.length
    · obtain ⟨b9, off9, hA9, hb9, y0⟩ := int_at HI2.out hlt
      obtain ⟨y, hy⟩ : ∃ y, y = on[k] := ⟨_, rfl⟩
      rw [← hy] at y0
      have hlk := HS2.out.dm.look (P := Tryz.prog) Tryz.underlying83 Tryz.underlying3 (zb _) y
      have HUS := hide (upsOf_succ on dd hlt)
      rw [← hy, ← huu] at HUS
      rw [← huu]
      have HLT := hide hlt
      subst hA9
      clear hy hub
      rcases hB (decide (y ∈ dd)) with hd | hd
      · rw [hd] at hlk
        have HUY := hide (show (if y ∈ dd then 0 else 1) = 1 by rw [if_neg (by simpa using hd)])
        clear hd
        go_wp2_with fail
        go_round
        case rel => exact ⟨k + 1, HLT.out, by go_num, by rw [HUS.out, HUY.out]; go_num⟩
        case measure => have := HLT.out; simp [intOf]; omega
      · rw [hd] at hlk
        have HUY := hide (show (if y ∈ dd then 0 else 1) = 0 by rw [if_pos (by simpa using hd)])
        clear hd
        go_wp2_with fail
        go_round
        case rel => exact ⟨k + 1, HLT.out, by go_num, by rw [HUS.out, HUY.out]; rfl⟩
        case measure => have := HLT.out; simp [intOf]; omega
    · obtain rfl : k = on.length := by omega
      have HUU := hide huu
      rw [List.take_length] at HUU
      rw [← huu]
      have hru := hrun
      have hmo := hmost
      clear huu hub
      have hwr : IntKind.i64.wrap (2 * (uu : Int)) = 2 * (uu : Int) := by rw [IntKind.wrap_i64]; omega
      rcases hB (decide ((on.length : Int) < 2 * (uu : Int))) with hd | hd
      · have HRS := hide (show runStep on dd run = run + 1 by unfold runStep; rw [← HUU.out, if_neg (by simpa using hd)])
        have hne := HNE.out.2.2.2.2.1
        have hne2 : bo ≠ bn := fun e => hne e.symm
        go_wp2_with fail
        go_end0
        have s3 := HS2.out.turned HNE.out.2.1 HNE.out.2.2.2.1 HNE.out.2.2.2.2.1 (run + 1)
        rw [HRS.out]
        exact ⟨rfl, s3.turned2 HNE.out.2.2.1 HNE.out.2.2.2.2.2 HNE.out.2.2.2.2.1 _, (HV2.out.trans (VisR.cellI HS2.out.nb HNE.out.2.1 _)).trans (VisR.cellI s3.ob HNE.out.2.2.1 _)⟩
      · have HRS := hide (show runStep on dd run = 0 by unfold runStep; rw [← HUU.out, if_pos (by simpa using hd)])
        have hne := HNE.out.2.2.2.2.1
        have hne2 : bo ≠ bn := fun e => hne e.symm
        go_wp2_with fail
        go_end0
        have s3 := HS2.out.turned HNE.out.2.1 HNE.out.2.2.2.1 HNE.out.2.2.2.2.1 (run + 1)
        have s4 := s3.turned HNE.out.2.1 HNE.out.2.2.2.1 HNE.out.2.2.2.2.1 0
        rw [HRS.out]
        exact ⟨rfl, s4.turned2 HNE.out.2.2.1 HNE.out.2.2.2.2.2 HNE.out.2.2.2.2.1 _, ((HV2.out.trans (VisR.cellI HS2.out.nb HNE.out.2.1 _)).trans (VisR.cellI s3.nb HNE.out.2.1 _)).trans (VisR.cellI s4.ob HNE.out.2.2.1 _)⟩
end Go.Proofs.YtaepcjklimigmaaGreatDoor
