/- A part of the claim: see its last text. -/
import Derived.Test.YtmjcgcnpeoemdaaGreatDoorUK45
import Derived.Test.YtmjcgcnpeoemdaaGreatDoorUK21

set_option maxRecDepth 100000
set_option maxHeartbeats 16000000
namespace Go.Proofs.YtmjcgcnpeoemdaaGreatDoor
open Go Go.RowKit Go.Proofs
def OwnRv (B0 B : Nat) (w : World) (v : Value) (l : List EvM) : Prop := ∃ vss, w.ownsRow B0 50 22 v l.length vss.flatten ∧ CellsOf encEv 22 w B l vss
theorem OwnRv.empty (w : World) (B : Nat) : OwnRv w.heap.size B (w.alloc (.cells #[] 50)) (.slice (some ⟨w.heap.size, 0, none⟩) 0 0) [] := by
 refine ⟨[], ?_, CellsOf.nil_⟩
 have := World.ownsRow_lit (e := 50) (size := 22) w #[] 0 (Nat.le_refl _) (by decide) (by simp)
 simpa using this
theorem OwnRv.lt {B0 B : Nat} {w : World} {v : Value} {l : List EvM} (h : OwnRv B0 B w v l) : ∀ k, v.ownBlock = some k → B0 ≤ k ∧ k < w.heap.size := by
 obtain ⟨vss, h, _⟩ := h; exact World.ownsRow.lt h
theorem OwnRv.rows {B0 B : Nat} {w : World} {v : Value} {l : List EvM} (h : OwnRv B0 B w v l) (hB : B ≤ w.heap.size) : ∃ A c, v = .slice A l.length c ∧ l.length ≤ c ∧ c ≤ 9223372036854775807 ∧ Rows encEv 22 w w.heap.size A l := by
 obtain ⟨vss, h, hc⟩ := h
 obtain ⟨A, c, e, h1, h2⟩ := Rows.ofOwn h hc hB
 refine ⟨A, c, e, h1, ?_, h2⟩
 rcases h.2 with ⟨e2, _⟩ | ⟨g, cap, cur, e2, _, _, _, hm, _⟩
 · rw [e] at e2; injection e2 with _ _ e3; omega
 · rw [e] at e2; injection e2 with _ _ e3; subst e3; exact hm
theorem append_rows {ops : Array Oper} {rest : List Oper} {o : Oper} {a : Act} {Q : Exit → Act → World → Prop} {w : World} (hgd : o.guard = none) (s x : Operand)
    (ho : o.op = .call { callee := .builtin .append, args := #[s, x], argTypes := #[30, 30] })
    (base B : Nat) (v : Value) (l : List EvM) (hs : a.eval s = v) (hown : OwnRv base B w v l)
    (A : Option Addr) (n c : Nat) (r : List EvM) (hx : a.eval x = .slice A n c) (hn : n = r.length) (hr : Rows encEv 22 w B A r)
    (hlen : l.length + r.length ≤ 10000) (hbase : base ≤ w.heap.size) (hB : B ≤ base)
    (h : ∀ v' w', OwnRv base B w' v' (l ++ r) → w.grownBy w' v.ownBlock → (v'.ownBlock = v.ownBlock ∨ v'.ownBlock = some w.heap.size) → wpList Tryz.prog ops Q rest (a.put o.dst v') w') : wpList Tryz.prog ops Q (o :: rest) a w := by
 subst hn
 obtain ⟨i0, hi, hz0, hz1, hz2⟩ := info_parts infoEv3
 obtain ⟨vss, hO, hC⟩ := hown
 obtain ⟨vr, hCr, hR⟩ := hr.cells (by decide)
 refine wpList_plain hgd fun _ hK => wp_append_any w s x 30 ho base 50 i0 _ 22 232 Tryz.underlying30 hi hz0 hz1 hz2 rfl (by omega) v l.length vss.flatten hs hO B A r.length c vr.flatten hx hR (evCells_one hCr) (by unfold maxLen; omega) (by omega) hbase
  fun v' w' h2 h3 h4 => hK _ _ (h v' w' ⟨vss ++ vr, ?_, (hC.append hCr).keep fun p hp => ?_⟩ h3 h4)
 · rw [List.length_append, List.flatten_append]; exact h2
 · exact World.cell?_of_block (h3.block p.block (by omega) (fun e => by have := (World.ownsRow.lt hO _ e.symm).1; omega))
theorem PsR.pre {w : World} {A : Option Addr} {ps qs : List PlaceM} (h : PsR w A (ps ++ qs)) : PsR w A ps := by
 have := h.take_ ps.length
 rwa [List.take_left'] at this
 rfl
theorem RdBr.pre {w : World} {A : Option Addr} {ps qs : List BrM} (h : RdBr w A (ps ++ qs)) : RdBr w A ps := fun k hk => by
 have := h k (by simp; omega)
 rwa [List.getElem_append_left hk] at this
theorem RdBr.cut {w : World} {A : Option Addr} {ps qs : List BrM} (h : RdBr w A (ps ++ qs)) : RdBr w (A.map (·.add (ps.length * 4))) qs := fun k hk => by
 have hk2 : ps.length + k < (ps ++ qs).length := by simp; omega
 obtain ⟨b, off, e, hb, h0, h1, h2, h3⟩ := h (ps.length + k) hk2
 have e2 : (ps ++ qs)[ps.length + k] = qs[k] := by rw [List.getElem_append_right (by omega)]; simp
 rw [e2] at h0 h1 h2 h3
 have e3 : off + (ps.length + k) * 4 = off + ps.length * 4 + k * 4 := by omega
 rw [e3] at h0 h1 h2 h3
 refine ⟨b, off + ps.length * 4, ?_, hb, h0, h1, h2, h3⟩
 rw [e]; simp [add_none]
end Go.Proofs.YtmjcgcnpeoemdaaGreatDoor
