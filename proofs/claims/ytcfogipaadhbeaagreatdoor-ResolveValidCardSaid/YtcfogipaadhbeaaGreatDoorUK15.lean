/- A part of the claim: see its last text. -/
import Derived.Test.YtcfogipaadhbeaaGreatDoorUK06
import Derived.Test.YtcfogipaadhbeaaGreatDoorUK04
import Derived.Test.YtcfogipaadhbeaaGreatDoorUK03

set_option maxRecDepth 100000
set_option maxHeartbeats 16000000
namespace Go.Proofs.YtcfogipaadhbeaaGreatDoor
open Go Go.RowKit Go.Proofs
theorem exactly_prog (k : Int) (w : World) : Calls Tryz.prog 101 #[.int .i64 k] w fun e w' => ∃ b, e = .returned (.func (.func 161) #[] #[.pointer (some ⟨b, 0, none⟩)]) ∧ w.heap.size ≤ b ∧ Blk w' b 3 #[.int .i64 k] ∧ Below w.heap.size w w' := by
 have HB := hide ((Below.refl w.heap.size w).alloc (Nat.le_refl _) (.cells #[.int .i64 k] 3))
 have HX := hide (Blk.new w 3 #[.int .i64 k])
 go_enter Tryz.func101, Tryz.ntmps101
 go_wp2
 go_ret
 exact ⟨w.heap.size, rfl, Nat.le_refl _, HX.out, HB.out⟩
abbrev WD := Option (Nat × Int)
def fItem : Value := .func (.func 102) #[] #[]
def fEx (b : Nat) : Value := .func (.func 161) #[] #[.pointer (some ⟨b, 0, none⟩)]
def wdV : WD → Value
 | none => fItem
 | some x => fEx x.1
def elW : El WD := ⟨97, 1, fun x => [wdV x], fun _ => rfl, by intro x u hu; simp at hu; subst hu; cases x <;> rfl, by decide⟩
theorem okW : ElOk elW 94 .nilFunc 8 := ⟨by kernel_rfl, Tryz.underlying94, rfl, by decide⟩
def ClG (B : Nat) (u : Value) (k : Int) (w : World) : Prop := ∃ b, u = fEx b ∧ B ≤ b ∧ Blk w b 3 #[.int .i64 k]
def SlG (B : Nat) (u : Value) (ks : List (Option Int)) (w : World) : Prop := ∃ L : List WD, OwnE_ elW B w u L ∧ L.map (fun d => d.map (·.2)) = ks ∧ ∀ b k, some (b, k) ∈ L → B ≤ b ∧ Blk w b 3 #[.int .i64 k]
theorem ClG.kc {B : Nat} {u : Value} {k : Int} {w w' : World} (h : ClG B u k w) (hk : Kc w w') : ClG B u k w' := by
 obtain ⟨b, e, hb, hB⟩ := h
 exact ⟨b, e, hb, hk.blk _ _ _ hB⟩
theorem SlG.kc {B : Nat} {u : Value} {ks : List (Option Int)} {w w' : World} (h : SlG B u ks w) (hk : Kc w w') : SlG B u ks w' := by
 obtain ⟨L, h1, h2, h3⟩ := h
 exact ⟨L, h1.keepB fun g cur _ hB => hk.blk _ _ _ hB, h2, fun b k hm => ⟨(h3 b k hm).1, hk.blk _ _ _ (h3 b k hm).2⟩⟩
theorem SlG.nil_ (B : Nat) (w : World) : SlG B (.slice none 0 0) [] w := ⟨[], OwnE_.nil_ B w, rfl, fun b k h => absurd h (by simp)⟩
def fixW : List (Int × List (Option Int)) := [(2, [some 0, some 1]), (3, [some 2]), (4, [some 0, some 0]), (8, [some 0]), (10, [some 5]), (11, [none]), (12, [none]), (16, [none]), (13, [none]), (14, [none, none])]
def fixedK (k : Int) : List (Option Int) := ((fixW.find? fun x => decide (x.1 = k)).map (·.2)).getD []
def slW (i : Nat) : Nat := ([4, 5, 6, 7, 104, 8, 9, 107, 10, 11, 12, 111, 13, 14, 114, 15, 16, 117, 17, 119, 18, 121, 19, 123, 20, 125, 21, 127, 22, 23, 24, 25, 3] : List Nat).getD i 99
def srcW (i : Nat) : Nat := ([99, 99, 99, 99, 3, 99, 99, 6, 99, 99, 99, 10, 99, 99, 13, 99, 99, 16, 99, 18, 99, 20, 99, 22, 99, 24, 99, 26, 99, 99, 99, 99, 99] : List Nat).getD i 99
def tabW : List (Nat × Int × Nat) := [(4, 2, 7), (7, 3, 9), (11, 4, 12), (14, 8, 14), (17, 10, 16), (19, 11, 17), (21, 12, 18), (23, 16, 19), (25, 13, 20), (27, 14, 21)]
def tagW : List (Nat × List (Option Int)) := [(0, []), (1, [some 0]), (1, [some 1]), (2, [some 0, some 1]), (0, []), (1, [some 2]), (2, [some 2]), (0, []), (1, [some 0]), (1, [some 0]), (2, [some 0, some 0]), (0, []), (1, [some 0]), (2, [some 0]), (0, []), (1, [some 5]), (2, [some 5]), (0, []), (2, [none]), (0, []), (2, [none]), (0, []), (2, [none]), (0, []), (2, [none]), (0, []), (2, [none, none]), (0, []), (3, []), (4, []), (5, []), (6, []), (6, [])]
def MapG (B : Nat) (u : Value) (w : World) : Prop := ∃ r l, u = .map (some r) ∧ AM keyInt w r l ∧ ∀ j, SlG B ((getA l j).getD (.slice none 0 0)) (fixedK j) w
def GvT (B bd : Nat) (k : Int) (t : Nat × List (Option Int)) (u : Value) (w : World) : Prop :=
 if t.1 = 1 then (∃ c, t.2 = [some c] ∧ ClG B u c w) else if t.1 = 2 then SlG B u t.2 w else if t.1 = 3 then MapG B u w else if t.1 = 4 then u = .pointer (some ⟨bd, 0, none⟩) else if t.1 = 5 then u = .int .i64 k else if t.1 = 6 then SlG B u (fixedK k) w else True
def GvW (B bd : Nat) (k : Int) (j : Nat) (u : Value) (w : World) : Prop := GvT B bd k (tagW.getD j (0, [])) u w
theorem GvT.kc {B bd : Nat} {k : Int} {t : Nat × List (Option Int)} {u : Value} {w w' : World} (h : GvT B bd k t u w) (h3 : t.1 ≠ 3) (hk : Kc w w') : GvT B bd k t u w' := by
 unfold GvT at h ⊢
 split
 · rename_i e; rw [if_pos e] at h
   obtain ⟨c, e2, h⟩ := h
   exact ⟨c, e2, h.kc hk⟩
 · rename_i e1; rw [if_neg e1] at h
   split
   · rename_i e; rw [if_pos e] at h; exact h.kc hk
   · rename_i e2; rw [if_neg e2, if_neg h3] at h
     split
     · rename_i e; rw [if_pos e] at h; exact h
     · rename_i e4; rw [if_neg e4] at h
       split
       · rename_i e; rw [if_pos e] at h; exact h
       · rename_i e5; rw [if_neg e5] at h
         split
         · rename_i e; rw [if_pos e] at h; exact h.kc hk
         · trivial
theorem GvT.km {B bd : Nat} {k : Int} {t : Nat × List (Option Int)} {u : Value} {w w' : World} (h : GvT B bd k t u w) (hk : Km w w') : GvT B bd k t u w' := by
 by_cases h3 : t.1 = 3
 · obtain ⟨t1, t2⟩ := t
   simp only at h3
   subst h3
   have h2 : MapG B u w := h
   obtain ⟨r, l, e, hA, hS⟩ := h2
   show MapG B u w'
   exact ⟨r, l, e, hA.keep (hk.blk r hA.lt), fun j => (hS j).kc hk.kc⟩
 · exact h.kc h3 hk.kc
theorem GvW.km {B bd : Nat} {k : Int} {w w' : World} (hk : Km w w') (j : Nat) (u : Value) (h : GvW B bd k j u w) : GvW B bd k j u w' := GvT.km h hk
theorem tagW_map {j : Nat} (h : j ≠ 28) : (tagW.getD j (0, [])).1 ≠ 3 := by
 by_cases hj : j < 33
 · have : ∀ j, j < 33 → j ≠ 28 → (tagW.getD j (0, [])).1 ≠ 3 := by decide
   exact this j hj h
 · rw [List.getD_eq_getElem?_getD, List.getElem?_eq_none (by simp [tagW]; omega)]; decide
theorem GvW.kc {B bd : Nat} {k : Int} {w w' : World} (hk : Kc w w') (j : Nat) (u : Value) (hj : j ≠ 28) (h : GvW B bd k j u w) : GvW B bd k j u w' := GvT.kc h (tagW_map hj) hk
theorem okLitW : LitOk 33 28 4 slW srcW tabW := ⟨by decide, rfl, by decide, by decide, by decide, by decide, by decide, by decide⟩
theorem ClG.fn {B : Nat} {u : Value} {k : Int} {w : World} (h : ClG B u k w) : ∃ b, u = .func (.func 161) #[] #[.pointer (some ⟨b, 0, none⟩)] ∧ B ≤ b ∧ Blk w b 3 #[.int .i64 k] := h
theorem SlG.one {B : Nat} {w : World} {u : Value} {c : Option Int} (hB : B ≤ w.heap.size) (h : match c with | none => u = fItem | some k => ClG B u k w) : SlG B (.slice (some ⟨w.heap.size, 0, none⟩) 1 1) [c] (w.alloc (.cells #[u] 97)) := by
 have hk : Kc w (w.alloc (.cells #[u] 97)) := Kc.of_below ((Below.refl _ _).alloc (Nat.le_refl _) _)
 cases c with
 | none =>
   simp only at h
   subst h
   refine ⟨[none], ?_, rfl, fun b k hm => absurd hm (by simp)⟩
   have := World.ownsRow_lit (e := 97) (size := 1) w #[fItem] 1 hB (by decide) (by simp)
   simpa [OwnE_, elCells, elW, wdV] using this
 | some k =>
   obtain ⟨b, rfl, hb, hX⟩ := h
   refine ⟨[some (b, k)], ?_, rfl, fun b2 k2 hm => ?_⟩
   · have := World.ownsRow_lit (e := 97) (size := 1) w #[fEx b] 1 hB (by decide) (by simp)
     simpa [OwnE_, elCells, elW, wdV] using this
   · simp only [List.mem_singleton, Option.some.injEq, Prod.mk.injEq] at hm
     rw [hm.1, hm.2]
     exact ⟨hb, hk.blk _ _ _ hX⟩
theorem SlG.two {B : Nat} {w : World} {u1 u2 : Value} {k1 k2 : Int} (hB : B ≤ w.heap.size) (h1 : ClG B u1 k1 w) (h2 : ClG B u2 k2 w) : SlG B (.slice (some ⟨w.heap.size, 0, none⟩) 2 2) [some k1, some k2] (w.alloc (.cells #[u1, u2] 97)) := by
 have hk : Kc w (w.alloc (.cells #[u1, u2] 97)) := Kc.of_below ((Below.refl _ _).alloc (Nat.le_refl _) _)
 obtain ⟨b1, rfl, hb1, hX1⟩ := h1
 obtain ⟨b2, rfl, hb2, hX2⟩ := h2
 refine ⟨[some (b1, k1), some (b2, k2)], ?_, rfl, fun b k hm => ?_⟩
 · have := World.ownsRow_lit (e := 97) (size := 1) w #[fEx b1, fEx b2] 2 hB (by decide) (by simp)
   simpa [OwnE_, elCells, elW, wdV] using this
 · simp only [List.mem_cons, Option.some.injEq, Prod.mk.injEq, List.not_mem_nil, or_false] at hm
   rcases hm with hm | hm
   · rw [hm.1, hm.2]; exact ⟨hb1, hk.blk _ _ _ hX1⟩
   · rw [hm.1, hm.2]; exact ⟨hb2, hk.blk _ _ _ hX2⟩
theorem SlG.two0 {B : Nat} {w : World} (hB : B ≤ w.heap.size) : SlG B (.slice (some ⟨w.heap.size, 0, none⟩) 2 2) [none, none] (w.alloc (.cells #[fItem, fItem] 97)) := by
 refine ⟨[none, none], ?_, rfl, fun b k hm => absurd hm (by simp)⟩
 have := World.ownsRow_lit (e := 97) (size := 1) w #[fItem, fItem] 2 hB (by decide) (by simp)
 simpa [OwnE_, elCells, elW, wdV] using this
theorem GvT_cl {B bd : Nat} {k c : Int} {u : Value} {w : World} (h : ClG B u c w) : GvT B bd k (1, [some c]) u w := ⟨c, rfl, h⟩
theorem GvT_cl' {B bd : Nat} {k c : Int} {u : Value} {w : World} (h : GvT B bd k (1, [some c]) u w) : ClG B u c w := by
 have h2 : ∃ c', [some c] = [some c'] ∧ ClG B u c' w := h
 obtain ⟨c', e, h3⟩ := h2
 injection e with e _
 injection e with e
 rw [e]; exact h3
section
variable {o : Oper} {a : Act} {w : World} {K : Act → World → Prop} {Q : Exit → Act → World → Prop} {d : Nat}
theorem st_call {k : Int} (hop : o.op = .call { callee := .value (.func 101), args := #[.const (.int .i64 k)], argTypes := #[3] }) (hd : o.dst = some d)
    (h : ∀ b w', w.heap.size ≤ b → Blk w' b 3 #[.int .i64 k] → Below w.heap.size w w' → K (a.put (some d) (fEx b)) w') : o.wp Tryz.prog a w K Q := by
 have hc := (exactly_prog k w)
 have HH := hide h
 clear h
 unfold Oper.wp execOp
 simp only [hop, resolve, invoke]
 go_simp
 refine hc.mono ?_
 rintro e w' ⟨b, rfl, hb, hX, hbw⟩
 have := HH.out b w' hb hX hbw
 simpa [Act.put, hd, fEx] using this
theorem st_bs1 {x : Operand} {u : Value} (hop : o.op = .buildSlice 94 1 #[(0, x)]) (hd : o.dst = some d) (hx : a.eval x = u) (hu : ∃ g lb, u = .func (.func g) #[] lb)
    (h : K (a.put (some d) (.slice (some ⟨w.heap.size, 0, none⟩) 1 1)) (w.alloc (.cells #[u] 97))) : o.wp Tryz.prog a w K Q := by
 obtain ⟨g, lb, rfl⟩ := hu
 have HH := hide h
 clear h
 unfold Oper.wp execOp
 simp only [hop]
 generalize a.eval = ρ at *
 go_simp
 have := HH.out
 simpa [Act.put, hd] using this
theorem st_bs2 {x y : Operand} {u v : Value} (hop : o.op = .buildSlice 94 2 #[(0, x), (1, y)]) (hd : o.dst = some d) (hx : a.eval x = u) (hy : a.eval y = v) (hu : ∃ g lb, u = .func (.func g) #[] lb) (hv : ∃ g lb, v = .func (.func g) #[] lb)
    (h : K (a.put (some d) (.slice (some ⟨w.heap.size, 0, none⟩) 2 2)) (w.alloc (.cells #[u, v] 97))) : o.wp Tryz.prog a w K Q := by
 obtain ⟨g, lb, rfl⟩ := hu
 obtain ⟨g2, lb2, rfl⟩ := hv
 have HH := hide h
 clear h
 unfold Oper.wp execOp
 simp only [hop]
 generalize a.eval = ρ at *
 go_simp
 have := HH.out
 simpa [Act.put, hd] using this
theorem st_map {t : TypeId} (hop : o.op = .makeMap t none) (hd : o.dst = some d) (h : K (a.put (some d) (.map (some w.heap.size))) (w.alloc (.map #[] 0))) : o.wp Tryz.prog a w K Q := by
 have hmm := @run_makeMap Tryz.prog
 have HH := hide h
 clear h
 unfold Oper.wp execOp
 simp only [hop]
 go_simp
 have := HH.out
 simpa [Act.put, hd] using this
theorem st_val {u : Value} (hrun : (execOp a.eval o).run Tryz.prog w = .ok (.value u) w) (hd : o.dst = some d) (h : K (a.put (some d) u) w) : o.wp Tryz.prog a w K Q := by
 unfold Oper.wp
 rw [hrun]
 show K (a.put o.dst u) w
 rw [hd]; exact h
end
def frW (d : Decl) (ra na : Option Addr) (rc nc bd : Nat) (v : Nat → Value) : Act := { tmps := #[.agg #[.int .i64 d.kind, .string d.name, .slice ra d.refs.length rc, .slice na d.nums.length nc, .int .i64 d.by_, .bool d.always], .pointer (some ⟨bd, 0, none⟩), .slice none 0 0, v 3, v 4, v 5, v 6, v 7, v 8, v 9, v 10, v 11, v 12, v 13, v 14, v 15, v 16, v 17, v 18, v 19, v 20, v 21, v 22, v 23, v 24, v 25, undef, undef, undef, undef, undef, undef, undef, undef, undef, undef, undef], defers := [] }
def IW (d : Decl) (ra na : Option Addr) (rc nc bd B : Nat) (w0 : World) (listed : Array Bool) (a : Act) (w : World) : Prop := ∃ v, a = frW d ra na rc nc bd v ∧ LitI 33 28 4 slW srcW (GvW B bd d.kind) tabW w0 listed v w
theorem wants_zero (w : World) : (zeroValue 94).run Tryz.prog w = .ok (.slice none 0 0) w := by kernel_rfl
theorem mem28 (j : Nat) (hj : j < 28) : (⟨j, .data⟩ : Edge) ∈ ((List.range 28).map fun i => (⟨i, .data⟩ : Edge)).toArray := by
 simp; exact hj
theorem mapG_of {B bd : Nat} {k : Int} {w0 w : World} {listed : Array Bool} {v : Nat → Value} (h : LitI 33 28 4 slW srcW (GvW B bd k) tabW w0 listed v w) (ha : ∀ j, j < 28 → listed.getD j false = true) : MapG B (v 4) w := by
 obtain ⟨r, l, e1, _, hA, hl⟩ := h.m (ha 0 (by decide))
 refine ⟨r, l, e1, hA, fun j => ?_⟩
 rw [hl]
 have hf : tabOf tabW listed v j = (tabW.find? fun x => decide (x.2.1 = j)).map fun x => v x.2.2 := by
  unfold tabOf
  rw [find_congr (q := fun x => decide (x.2.1 = j)) (fun x hx => by
   have : x.1 < 28 := (okLitW.t1 x hx).2.1
   rw [ha x.1 this, Bool.and_true])]
 rw [hf]
 have key : ∀ x ∈ tabW, SlG B (v x.2.2) (fixedK x.2.1) w := by
  have hg : ∀ i, i < 28 → GvW B bd k i (v (slW i)) w := fun i hi => h.g i (by omega) (ha i hi)
  unfold tabW
  refine List.forall_mem_cons.2 ⟨hg 3 (by decide), ?_⟩
  refine List.forall_mem_cons.2 ⟨hg 6 (by decide), ?_⟩
  refine List.forall_mem_cons.2 ⟨hg 10 (by decide), ?_⟩
  refine List.forall_mem_cons.2 ⟨hg 13 (by decide), ?_⟩
  refine List.forall_mem_cons.2 ⟨hg 16 (by decide), ?_⟩
  refine List.forall_mem_cons.2 ⟨hg 18 (by decide), ?_⟩
  refine List.forall_mem_cons.2 ⟨hg 20 (by decide), ?_⟩
  refine List.forall_mem_cons.2 ⟨hg 22 (by decide), ?_⟩
  refine List.forall_mem_cons.2 ⟨hg 24 (by decide), ?_⟩
  refine List.forall_mem_cons.2 ⟨hg 26 (by decide), ?_⟩
  exact fun x hx => absurd hx (by simp)
 cases hq : tabW.find? (fun x => decide (x.2.1 = j)) with
 | none =>
   have hn : fixedK j = [] := by
    unfold fixedK
    rw [List.find?_eq_none.2 (fun x hx => by
     have h1 := List.find?_eq_none.1 hq
     have : ∀ x ∈ fixW, ∃ y ∈ tabW, y.2.1 = x.1 := by decide
     obtain ⟨y, hy, e⟩ := this x hx
     have := h1 y hy
     rw [e] at this
     exact this)]
    rfl
   rw [hn]
   exact SlG.nil_ B w
 | some x =>
   have hx := List.mem_of_find?_eq_some hq
   have hp := List.find?_some hq
   have e : x.2.1 = j := of_decide_eq_true hp
   rw [← e]
   exact key x hx
theorem look_run {o : Oper} {a : Act} {w : World} {t : TypeId} {x y : Operand} {m k u : Value} (hm : a.eval x = m) (hk : a.eval y = k) (h : (Instr.lookup t m k false).run Tryz.prog w = .ok u w) (hop : o.op = .lookup t x y false := by rfl) : (execOp a.eval o).run Tryz.prog w = .ok (.value u) w := by
 unfold execOp
 simp only [hop, hm, hk, Sem.run_bind, h, Result.andThen_ok, Sem.run_pure]
theorem fixedK_len (k : Int) : (fixedK k).length ≤ 2 := by
 unfold fixedK
 cases hq : fixW.find? (fun x => decide (x.1 = k)) with
 | none => simp
 | some x =>
   have : ∀ x ∈ fixW, x.2.length ≤ 2 := by decide
   exact this x (List.mem_of_find?_eq_some hq)
theorem SlG.push {B b : Nat} {w w' : World} {v v' : Value} {L : List WD} {k : Int} (hO : OwnE_ elW B w v L) (hX : ∀ b k, some (b, k) ∈ L → B ≤ b ∧ Blk w b 3 #[.int .i64 k]) (hB : B ≤ b) (hb : Blk w b 3 #[.int .i64 k]) (hO' : OwnE_ elW B w' v' (L ++ [some (b, k)])) (hg : w.grownBy w' v.ownBlock) :
    SlG B v' (L.map (fun d => d.map (·.2)) ++ [some k]) w' := by
 have keep : ∀ g j, Blk w g 3 #[.int .i64 j] → Blk w' g 3 #[.int .i64 j] := fun g j h => (hg.block g h.lt (fun e => hO.ne h (by decide) e.symm)).trans h
 refine ⟨_, hO', by rw [List.map_append]; rfl, fun b2 k2 hm => ?_⟩
 rcases List.mem_append.1 hm with hm | hm
 · exact ⟨(hX b2 k2 hm).1, keep _ _ (hX b2 k2 hm).2⟩
 · simp only [List.mem_singleton, Option.some.injEq, Prod.mk.injEq] at hm
   rw [hm.1, hm.2]
   exact ⟨hB, keep _ _ hb⟩
def WantsR (w : World) (k : Int) (n : Nat) (e : Ending) (w' : World) : Prop := ∃ v, e = .returned v ∧ SlG w.heap.size v (fixedK k ++ List.replicate (n - (fixedK k).length) (some 3)) w' ∧ Below w.heap.size w w'
theorem wants_prog (d : Decl) (ra na : Option Addr) (rc nc : Nat) (w : World) (hl : d.refs.length ≤ 1000) :
    Calls Tryz.prog 62 #[.agg #[.int .i64 d.kind, .string d.name, .slice ra d.refs.length rc, .slice na d.nums.length nc, .int .i64 d.by_, .bool d.always]] w (WantsR w d.kind d.refs.length) := by
 obtain ⟨B, hBd⟩ : ∃ B, B = w.heap.size := ⟨_, rfl⟩
 obtain ⟨bd, hbde⟩ : ∃ bd, bd = w.heap.size := ⟨_, rfl⟩
 have HX := hide (Blk.new w 43 #[.int .i64 d.kind, .string d.name, .slice ra d.refs.length rc, .slice na d.nums.length nc, .int .i64 d.by_, .bool d.always])
 have HB := hide ((Below.refl w.heap.size w).alloc (Nat.le_refl _) (.cells #[.int .i64 d.kind, .string d.name, .slice ra d.refs.length rc, .slice na d.nums.length nc, .int .i64 d.by_, .bool d.always] 43))
 go_enter Tryz.func62, Tryz.ntmps62
 go_wp2_with fail
 obtain ⟨w0, hw0⟩ : ∃ w0, w0 = w.alloc (.cells #[.int .i64 d.kind, .string d.name, .slice ra d.refs.length rc, .slice na d.nums.length nc, .int .i64 d.by_, .bool d.always] 43) := ⟨_, rfl⟩
 rw [← hw0] at HX HB
 rw [← hw0]
 have hB0 : B ≤ w0.heap.size := by rw [hBd]; exact HB.out.size
 have hbd : bd < w0.heap.size := by rw [hbde]; exact HX.out.lt
 have hx0 : w0.cell? ⟨bd, 0, none⟩ = some (.int .i64 d.kind) := by rw [hbde]; exact HX.out.cell 0
 rw [← hbde] at HX
 rw [← hbde]
 have HBD := hide (And.intro hBd hbde)
 have HLN := hide hl
 clear hw0 hBd hbde hl
 refine wp_region_inv (I := IW d ra na rc nc bd B w0) (by kernel_rfl) (by kernel_rfl) ⟨fun _ => undef, rfl, LitI.start w0 (Below.refl _ _).drew⟩ ?steps ?done
 case done =>
  rintro listed a w1 ⟨v, rfl, hI⟩ hall
  have g3 : SlG B (v 3) (fixedK d.kind) w1 := hI.g 32 (by decide) (hall 32 (by simp))
  have HE := hide hI.ext
  have HS := hide g3
  have HX1 := hide (HX.out.below hI.ext HX.out.lt)
  dsimp only [frW]
  generalize v 3 = f3 at HS
  clear g3 hI hall hx0
  obtain ⟨F, hF⟩ : ∃ F, F = fixedK d.kind := ⟨_, rfl⟩
  have HFF := hide hF
  rw [← hF] at HS
  have HF16 := hide (show F.length ≤ 2 by rw [hF]; exact fixedK_len _)
  clear hF
  have HB1 := hide (HB.out.trans (HE.out.mono HB.out.size))
  obtain ⟨cs, hcs⟩ : ∃ cs : Array Value, cs = #[.int .i64 d.kind, .string d.name, .slice ra d.refs.length rc, .slice na d.nums.length nc, .int .i64 d.by_, .bool d.always] := ⟨_, rfl⟩
  have HCS := hide hcs
  rw [← hcs] at HX1
  clear hcs
  go_wp2_with fail
  go_loopw [3] (fun u wr => ∃ k : Nat, (k = 0 ∨ F.length + k ≤ d.refs.length) ∧ Hid (SlG B u (F ++ List.replicate k (some 3)) wr) ∧ Hid (Below w.heap.size w wr) ∧ Hid (Blk wr bd 43 cs)) (fun u _ => match u with | .slice _ n _ => d.refs.length - n | _ => 0)
  case atStart => exact ⟨0, .inl rfl, by simpa using HS, HB1, HX1⟩
  case round =>
   obtain ⟨k, hk, hS, hb, hXr⟩ := hrel
   clear HS HB1 HX1 HX HB HE
   rename World => w5
   obtain ⟨L, hO, hm, hX⟩ := hS.out
   obtain ⟨A, c, rfl, hc, _⟩ := hO.form
   have hLl : L.length = F.length + k := by have := congrArg List.length hm; simpa using this
   have HXX := hide hX
   have HM := hide hm
   have x2 : w5.cell? ⟨bd, 2, none⟩ = some (.slice ra d.refs.length rc) := by rw [hXr.out.cell 2, HCS.out]; rfl
   have xl := hXr.out.lt
   obtain ⟨n, hn⟩ : ∃ n, n = L.length := ⟨_, rfl⟩
   have HNL := hide hn
   have HO := hide (show OwnE_ elW B w5 (.slice A n c) L by rw [hn]; exact hO)
   have HK0 := hide hk
   rw [← hn] at hLl hc ⊢
   have hbs := hb.out.size
   have HBB := hide (show B ≤ w5.heap.size by rw [HBD.out.1]; exact hbs)
   have HLF := hide hLl
   have hn1000 : n ≤ 1000 := by have := HLN.out; have := HF16.out; omega
   clear hO hm hX hS hn hbs hLl hk
   by_cases hlt : n < d.refs.length
   · have hltI : (n : Int) < (d.refs.length : Int) := by omega
     have HC := hide (exactly_prog 3 w5)
     go_wp2_with (first
      | (go_at_call 101; refine HC.out.mono ?_; rintro e w6 ⟨b, rfl, hbb, hbX, hbw⟩
         have HB6 := hide hbw
         have HXB := hide hbX
         have HBBB := hide (Nat.le_trans HBB.out hbb)
         have HO6 := hide (HO.out.below hbw)
         have HXX6 := hide (fun b2 k2 hm => (⟨(HXX.out b2 k2 hm).1, (HXX.out b2 k2 hm).2.below hbw (HXX.out b2 k2 hm).2.lt⟩ : B ≤ b2 ∧ Blk w6 b2 3 #[.int .i64 k2]))
         clear hbw hbX hbb)
      | (at_builtin; refine append_el okW rfl _ _ rfl B (.slice A n c) L rfl (HO6.out.below ((Below.refl _ w6).alloc (Nat.le_refl _) _)) _ _ 1 1 [some (b, 3)] rfl (Reads.newE (E := elW) w6 (some (b, 3))) rfl (by rw [← HNL.out]; have := HLN.out; simp; omega) (by have := HBB.out; have := HB6.out.size; simp; omega) ?_
         intro v3 w7 ho3 hg3 _
         have HK := hide (And.intro ho3 hg3)
         clear ho3 hg3))
     go_roundw
     case rel =>
      obtain ⟨ho3, hg3⟩ := HK.out
      obtain ⟨A3, c3, e3, _, _⟩ := ho3.form
      have ho6 := (HO6.out.below ((Below.refl _ w6).alloc (Nat.le_refl _) (.cells #[fEx b] 97)))
      have hk6 := (Kc.of_below ((Below.refl _ w6).alloc (Nat.le_refl _) (.cells #[fEx b] 97)))
      have hp := SlG.push ho6 (fun b2 k2 hm => ⟨(HXX6.out b2 k2 hm).1, hk6.blk _ _ _ (HXX6.out b2 k2 hm).2⟩) HBBB.out (hk6.blk _ _ _ HXB.out) ho3 hg3
      rw [HM.out, List.append_assoc, ← List.replicate_succ'] at hp
      have hb6 := (hb.out.trans (HB6.out.mono hb.out.size)).alloc (Nat.le_trans hb.out.size HB6.out.size) (.cells #[fEx b] 97)
      refine ⟨k + 1, .inr ?_, hide hp, hide (hb6.grown hg3 hb6.size (fun g e => ?_)), hide ?_⟩
      · have := HLF.out; omega
      · have := (ho6.lt g e).1; rw [HBD.out.1] at this; exact this
      · have hX6 := ((hXr.out.below HB6.out hXr.out.lt).below ((Below.refl _ w6).alloc (Nat.le_refl _) (.cells #[fEx b] 97)) (Nat.lt_of_lt_of_le hXr.out.lt HB6.out.size))
        exact (hg3.block bd hX6.lt (fun e => ho6.ne hX6 (by decide) e.symm)).trans hX6
     case measure =>
      obtain ⟨ho3, hg3⟩ := HK.out
      obtain ⟨A3, c3, rfl, _, _⟩ := ho3.form
      have := HNL.out
      simp; omega
   · have hltI : ¬ (n : Int) < (d.refs.length : Int) := by omega
     go_wp2_with fail
     go_ret
     have hkk : k = d.refs.length - F.length := by
      have := HLF.out
      rcases HK0.out with e | e <;> omega
     refine ⟨_, rfl, ?_, hb.out⟩
     rw [← HBD.out.1, ← HFF.out, ← hkk]
     exact ⟨L, HO.out, HM.out, HXX.out⟩
 case steps =>
 dsimp only [List.zipIdx]
 refine List.forall_mem_cons.2 ⟨?_, ?_⟩
 · -- operation 0
   intro listed a w1 hI hs hun hd
   obtain ⟨v, rfl, hI⟩ := hI
   exact wpOp_at rfl rfl (st_map rfl rfl ⟨upd v 4 _, rfl, hI.map_ okLitW hs hun (GvW.km (Km.of_below ((Below.refl _ _).alloc (Nat.le_refl _) _))) trivial⟩)
 refine List.forall_mem_cons.2 ⟨?_, ?_⟩
 · -- operation 1
   intro listed a w1 hI hs hun hd
   obtain ⟨v, rfl, hI⟩ := hI
   exact wpOp_at rfl rfl (st_call rfl rfl fun b w2 hb hX hbw => ⟨upd v 5 (fEx b), rfl, hI.val okLitW hs (by decide) (by decide) (by decide) hun (Km.of_below hbw) (hI.ext.trans (hbw.mono hI.ext.size)) (GvW.km (Km.of_below hbw)) (GvT_cl ⟨b, rfl, Nat.le_trans (Nat.le_trans hB0 hI.ext.size) hb, hX⟩) (fun e => absurd e (by decide))⟩)
 refine List.forall_mem_cons.2 ⟨?_, ?_⟩
 · -- operation 2
   intro listed a w1 hI hs hun hd
   obtain ⟨v, rfl, hI⟩ := hI
   exact wpOp_at rfl rfl (st_call rfl rfl fun b w2 hb hX hbw => ⟨upd v 6 (fEx b), rfl, hI.val okLitW hs (by decide) (by decide) (by decide) hun (Km.of_below hbw) (hI.ext.trans (hbw.mono hI.ext.size)) (GvW.km (Km.of_below hbw)) (GvT_cl ⟨b, rfl, Nat.le_trans (Nat.le_trans hB0 hI.ext.size) hb, hX⟩) (fun e => absurd e (by decide))⟩)
 refine List.forall_mem_cons.2 ⟨?_, ?_⟩
 · -- operation 3
   intro listed a w1 hI hs hun hd
   obtain ⟨v, rfl, hI⟩ := hI
   have g1 : ClG B (v 5) 0 w1 := GvT_cl' (hI.g 1 (by decide) (hd ⟨1, .data⟩ (by simp) rfl))
   have f1 : ∃ g lb, v 5 = .func (.func g) #[] lb := by obtain ⟨b, e, _⟩ := g1.fn; exact ⟨_, _, e⟩
   have g2 : ClG B (v 6) 1 w1 := GvT_cl' (hI.g 2 (by decide) (hd ⟨2, .data⟩ (by simp) rfl))
   have f2 : ∃ g lb, v 6 = .func (.func g) #[] lb := by obtain ⟨b, e, _⟩ := g2.fn; exact ⟨_, _, e⟩
   exact wpOp_at rfl rfl (st_bs2 rfl rfl (u := v 5) (v := v 6) rfl rfl f1 f2 ⟨upd v 7 (.slice (some ⟨w1.heap.size, 0, none⟩) 2 2), rfl, hI.val okLitW hs (by decide) (by decide) (by decide) hun (Km.of_below ((Below.refl _ _).alloc (Nat.le_refl _) _)) (hI.ext.alloc hI.ext.size _) (GvW.km (Km.of_below ((Below.refl _ _).alloc (Nat.le_refl _) _))) ((SlG.two (Nat.le_trans hB0 hI.ext.size) g1 g2 : SlG _ _ _ _)) (fun e => absurd e (by decide))⟩)
 refine List.forall_mem_cons.2 ⟨?_, ?_⟩
 · -- operation 4
   intro listed a w1 hI hs hun hd
   obtain ⟨v, rfl, hI⟩ := hI
   have d0 := hd ⟨0, .data⟩ (by simp) rfl
   have d1 := hd ⟨3, .data⟩ (by simp) rfl
   obtain ⟨r, l, e1, e2, e3, e4⟩ := hI.m d0
   refine wpOp_at rfl rfl (wp_insert rfl rfl (r := r) (l := l) e1 e3 Tryz.underlying134 Tryz.underlying3 (fun es c hw es2 c2 hA => ?_))
   exact ⟨v, rfl, hI.ins okLitW hs (i := 4) (k := 2) (s := 7) (by decide) hun d1 d0 e1 e2 hw e4 hA (GvW.kc (Kc.put hw)) (fun _ => trivial)⟩
 refine List.forall_mem_cons.2 ⟨?_, ?_⟩
 · -- operation 5
   intro listed a w1 hI hs hun hd
   obtain ⟨v, rfl, hI⟩ := hI
   exact wpOp_at rfl rfl (st_call rfl rfl fun b w2 hb hX hbw => ⟨upd v 8 (fEx b), rfl, hI.val okLitW hs (by decide) (by decide) (by decide) hun (Km.of_below hbw) (hI.ext.trans (hbw.mono hI.ext.size)) (GvW.km (Km.of_below hbw)) (GvT_cl ⟨b, rfl, Nat.le_trans (Nat.le_trans hB0 hI.ext.size) hb, hX⟩) (fun e => absurd e (by decide))⟩)
 refine List.forall_mem_cons.2 ⟨?_, ?_⟩
 · -- operation 6
   intro listed a w1 hI hs hun hd
   obtain ⟨v, rfl, hI⟩ := hI
   have g1 : ClG B (v 8) 2 w1 := GvT_cl' (hI.g 5 (by decide) (hd ⟨5, .data⟩ (by simp) rfl))
   have f1 : ∃ g lb, v 8 = .func (.func g) #[] lb := by obtain ⟨b, e, _⟩ := g1.fn; exact ⟨_, _, e⟩
   exact wpOp_at rfl rfl (st_bs1 rfl rfl (u := v 8) rfl f1 ⟨upd v 9 (.slice (some ⟨w1.heap.size, 0, none⟩) 1 1), rfl, hI.val okLitW hs (by decide) (by decide) (by decide) hun (Km.of_below ((Below.refl _ _).alloc (Nat.le_refl _) _)) (hI.ext.alloc hI.ext.size _) (GvW.km (Km.of_below ((Below.refl _ _).alloc (Nat.le_refl _) _))) ((SlG.one (c := some 2) (Nat.le_trans hB0 hI.ext.size) g1 : SlG _ _ _ _)) (fun e => absurd e (by decide))⟩)
 refine List.forall_mem_cons.2 ⟨?_, ?_⟩
 · -- operation 7
   intro listed a w1 hI hs hun hd
   obtain ⟨v, rfl, hI⟩ := hI
   have d0 := hd ⟨0, .data⟩ (by simp) rfl
   have d1 := hd ⟨6, .data⟩ (by simp) rfl
   obtain ⟨r, l, e1, e2, e3, e4⟩ := hI.m d0
   refine wpOp_at rfl rfl (wp_insert rfl rfl (r := r) (l := l) e1 e3 Tryz.underlying134 Tryz.underlying3 (fun es c hw es2 c2 hA => ?_))
   exact ⟨v, rfl, hI.ins okLitW hs (i := 7) (k := 3) (s := 9) (by decide) hun d1 d0 e1 e2 hw e4 hA (GvW.kc (Kc.put hw)) (fun _ => trivial)⟩
 refine List.forall_mem_cons.2 ⟨?_, ?_⟩
 · -- operation 8
   intro listed a w1 hI hs hun hd
   obtain ⟨v, rfl, hI⟩ := hI
   exact wpOp_at rfl rfl (st_call rfl rfl fun b w2 hb hX hbw => ⟨upd v 10 (fEx b), rfl, hI.val okLitW hs (by decide) (by decide) (by decide) hun (Km.of_below hbw) (hI.ext.trans (hbw.mono hI.ext.size)) (GvW.km (Km.of_below hbw)) (GvT_cl ⟨b, rfl, Nat.le_trans (Nat.le_trans hB0 hI.ext.size) hb, hX⟩) (fun e => absurd e (by decide))⟩)
 refine List.forall_mem_cons.2 ⟨?_, ?_⟩
 · -- operation 9
   intro listed a w1 hI hs hun hd
   obtain ⟨v, rfl, hI⟩ := hI
   exact wpOp_at rfl rfl (st_call rfl rfl fun b w2 hb hX hbw => ⟨upd v 11 (fEx b), rfl, hI.val okLitW hs (by decide) (by decide) (by decide) hun (Km.of_below hbw) (hI.ext.trans (hbw.mono hI.ext.size)) (GvW.km (Km.of_below hbw)) (GvT_cl ⟨b, rfl, Nat.le_trans (Nat.le_trans hB0 hI.ext.size) hb, hX⟩) (fun e => absurd e (by decide))⟩)
 refine List.forall_mem_cons.2 ⟨?_, ?_⟩
 · -- operation 10
   intro listed a w1 hI hs hun hd
   obtain ⟨v, rfl, hI⟩ := hI
   have g1 : ClG B (v 10) 0 w1 := GvT_cl' (hI.g 8 (by decide) (hd ⟨8, .data⟩ (by simp) rfl))
   have f1 : ∃ g lb, v 10 = .func (.func g) #[] lb := by obtain ⟨b, e, _⟩ := g1.fn; exact ⟨_, _, e⟩
   have g2 : ClG B (v 11) 0 w1 := GvT_cl' (hI.g 9 (by decide) (hd ⟨9, .data⟩ (by simp) rfl))
   have f2 : ∃ g lb, v 11 = .func (.func g) #[] lb := by obtain ⟨b, e, _⟩ := g2.fn; exact ⟨_, _, e⟩
   exact wpOp_at rfl rfl (st_bs2 rfl rfl (u := v 10) (v := v 11) rfl rfl f1 f2 ⟨upd v 12 (.slice (some ⟨w1.heap.size, 0, none⟩) 2 2), rfl, hI.val okLitW hs (by decide) (by decide) (by decide) hun (Km.of_below ((Below.refl _ _).alloc (Nat.le_refl _) _)) (hI.ext.alloc hI.ext.size _) (GvW.km (Km.of_below ((Below.refl _ _).alloc (Nat.le_refl _) _))) ((SlG.two (Nat.le_trans hB0 hI.ext.size) g1 g2 : SlG _ _ _ _)) (fun e => absurd e (by decide))⟩)
 refine List.forall_mem_cons.2 ⟨?_, ?_⟩
 · -- operation 11
   intro listed a w1 hI hs hun hd
   obtain ⟨v, rfl, hI⟩ := hI
   have d0 := hd ⟨0, .data⟩ (by simp) rfl
   have d1 := hd ⟨10, .data⟩ (by simp) rfl
   obtain ⟨r, l, e1, e2, e3, e4⟩ := hI.m d0
   refine wpOp_at rfl rfl (wp_insert rfl rfl (r := r) (l := l) e1 e3 Tryz.underlying134 Tryz.underlying3 (fun es c hw es2 c2 hA => ?_))
   exact ⟨v, rfl, hI.ins okLitW hs (i := 11) (k := 4) (s := 12) (by decide) hun d1 d0 e1 e2 hw e4 hA (GvW.kc (Kc.put hw)) (fun _ => trivial)⟩
 refine List.forall_mem_cons.2 ⟨?_, ?_⟩
 · -- operation 12
   intro listed a w1 hI hs hun hd
   obtain ⟨v, rfl, hI⟩ := hI
   exact wpOp_at rfl rfl (st_call rfl rfl fun b w2 hb hX hbw => ⟨upd v 13 (fEx b), rfl, hI.val okLitW hs (by decide) (by decide) (by decide) hun (Km.of_below hbw) (hI.ext.trans (hbw.mono hI.ext.size)) (GvW.km (Km.of_below hbw)) (GvT_cl ⟨b, rfl, Nat.le_trans (Nat.le_trans hB0 hI.ext.size) hb, hX⟩) (fun e => absurd e (by decide))⟩)
 refine List.forall_mem_cons.2 ⟨?_, ?_⟩
 · -- operation 13
   intro listed a w1 hI hs hun hd
   obtain ⟨v, rfl, hI⟩ := hI
   have g1 : ClG B (v 13) 0 w1 := GvT_cl' (hI.g 12 (by decide) (hd ⟨12, .data⟩ (by simp) rfl))
   have f1 : ∃ g lb, v 13 = .func (.func g) #[] lb := by obtain ⟨b, e, _⟩ := g1.fn; exact ⟨_, _, e⟩
   exact wpOp_at rfl rfl (st_bs1 rfl rfl (u := v 13) rfl f1 ⟨upd v 14 (.slice (some ⟨w1.heap.size, 0, none⟩) 1 1), rfl, hI.val okLitW hs (by decide) (by decide) (by decide) hun (Km.of_below ((Below.refl _ _).alloc (Nat.le_refl _) _)) (hI.ext.alloc hI.ext.size _) (GvW.km (Km.of_below ((Below.refl _ _).alloc (Nat.le_refl _) _))) ((SlG.one (c := some 0) (Nat.le_trans hB0 hI.ext.size) g1 : SlG _ _ _ _)) (fun e => absurd e (by decide))⟩)
 refine List.forall_mem_cons.2 ⟨?_, ?_⟩
 · -- operation 14
   intro listed a w1 hI hs hun hd
   obtain ⟨v, rfl, hI⟩ := hI
   have d0 := hd ⟨0, .data⟩ (by simp) rfl
   have d1 := hd ⟨13, .data⟩ (by simp) rfl
   obtain ⟨r, l, e1, e2, e3, e4⟩ := hI.m d0
   refine wpOp_at rfl rfl (wp_insert rfl rfl (r := r) (l := l) e1 e3 Tryz.underlying134 Tryz.underlying3 (fun es c hw es2 c2 hA => ?_))
   exact ⟨v, rfl, hI.ins okLitW hs (i := 14) (k := 8) (s := 14) (by decide) hun d1 d0 e1 e2 hw e4 hA (GvW.kc (Kc.put hw)) (fun _ => trivial)⟩
 refine List.forall_mem_cons.2 ⟨?_, ?_⟩
 · -- operation 15
   intro listed a w1 hI hs hun hd
   obtain ⟨v, rfl, hI⟩ := hI
   exact wpOp_at rfl rfl (st_call rfl rfl fun b w2 hb hX hbw => ⟨upd v 15 (fEx b), rfl, hI.val okLitW hs (by decide) (by decide) (by decide) hun (Km.of_below hbw) (hI.ext.trans (hbw.mono hI.ext.size)) (GvW.km (Km.of_below hbw)) (GvT_cl ⟨b, rfl, Nat.le_trans (Nat.le_trans hB0 hI.ext.size) hb, hX⟩) (fun e => absurd e (by decide))⟩)
 refine List.forall_mem_cons.2 ⟨?_, ?_⟩
 · -- operation 16
   intro listed a w1 hI hs hun hd
   obtain ⟨v, rfl, hI⟩ := hI
   have g1 : ClG B (v 15) 5 w1 := GvT_cl' (hI.g 15 (by decide) (hd ⟨15, .data⟩ (by simp) rfl))
   have f1 : ∃ g lb, v 15 = .func (.func g) #[] lb := by obtain ⟨b, e, _⟩ := g1.fn; exact ⟨_, _, e⟩
   exact wpOp_at rfl rfl (st_bs1 rfl rfl (u := v 15) rfl f1 ⟨upd v 16 (.slice (some ⟨w1.heap.size, 0, none⟩) 1 1), rfl, hI.val okLitW hs (by decide) (by decide) (by decide) hun (Km.of_below ((Below.refl _ _).alloc (Nat.le_refl _) _)) (hI.ext.alloc hI.ext.size _) (GvW.km (Km.of_below ((Below.refl _ _).alloc (Nat.le_refl _) _))) ((SlG.one (c := some 5) (Nat.le_trans hB0 hI.ext.size) g1 : SlG _ _ _ _)) (fun e => absurd e (by decide))⟩)
 refine List.forall_mem_cons.2 ⟨?_, ?_⟩
 · -- operation 17
   intro listed a w1 hI hs hun hd
   obtain ⟨v, rfl, hI⟩ := hI
   have d0 := hd ⟨0, .data⟩ (by simp) rfl
   have d1 := hd ⟨16, .data⟩ (by simp) rfl
   obtain ⟨r, l, e1, e2, e3, e4⟩ := hI.m d0
   refine wpOp_at rfl rfl (wp_insert rfl rfl (r := r) (l := l) e1 e3 Tryz.underlying134 Tryz.underlying3 (fun es c hw es2 c2 hA => ?_))
   exact ⟨v, rfl, hI.ins okLitW hs (i := 17) (k := 10) (s := 16) (by decide) hun d1 d0 e1 e2 hw e4 hA (GvW.kc (Kc.put hw)) (fun _ => trivial)⟩
 refine List.forall_mem_cons.2 ⟨?_, ?_⟩
 · -- operation 18
   intro listed a w1 hI hs hun hd
   obtain ⟨v, rfl, hI⟩ := hI
   exact wpOp_at rfl rfl (st_bs1 rfl rfl rfl ⟨_, _, rfl⟩ ⟨upd v 17 (.slice (some ⟨w1.heap.size, 0, none⟩) 1 1), rfl, hI.val okLitW hs (by decide) (by decide) (by decide) hun (Km.of_below ((Below.refl _ _).alloc (Nat.le_refl _) _)) (hI.ext.alloc hI.ext.size _) (GvW.km (Km.of_below ((Below.refl _ _).alloc (Nat.le_refl _) _))) ((SlG.one (c := none) (Nat.le_trans hB0 hI.ext.size) rfl : SlG _ _ _ _)) (fun e => absurd e (by decide))⟩)
 refine List.forall_mem_cons.2 ⟨?_, ?_⟩
 · -- operation 19
   intro listed a w1 hI hs hun hd
   obtain ⟨v, rfl, hI⟩ := hI
   have d0 := hd ⟨0, .data⟩ (by simp) rfl
   have d1 := hd ⟨18, .data⟩ (by simp) rfl
   obtain ⟨r, l, e1, e2, e3, e4⟩ := hI.m d0
   refine wpOp_at rfl rfl (wp_insert rfl rfl (r := r) (l := l) e1 e3 Tryz.underlying134 Tryz.underlying3 (fun es c hw es2 c2 hA => ?_))
   exact ⟨v, rfl, hI.ins okLitW hs (i := 19) (k := 11) (s := 17) (by decide) hun d1 d0 e1 e2 hw e4 hA (GvW.kc (Kc.put hw)) (fun _ => trivial)⟩
 refine List.forall_mem_cons.2 ⟨?_, ?_⟩
 · -- operation 20
   intro listed a w1 hI hs hun hd
   obtain ⟨v, rfl, hI⟩ := hI
   exact wpOp_at rfl rfl (st_bs1 rfl rfl rfl ⟨_, _, rfl⟩ ⟨upd v 18 (.slice (some ⟨w1.heap.size, 0, none⟩) 1 1), rfl, hI.val okLitW hs (by decide) (by decide) (by decide) hun (Km.of_below ((Below.refl _ _).alloc (Nat.le_refl _) _)) (hI.ext.alloc hI.ext.size _) (GvW.km (Km.of_below ((Below.refl _ _).alloc (Nat.le_refl _) _))) ((SlG.one (c := none) (Nat.le_trans hB0 hI.ext.size) rfl : SlG _ _ _ _)) (fun e => absurd e (by decide))⟩)
 refine List.forall_mem_cons.2 ⟨?_, ?_⟩
 · -- operation 21
   intro listed a w1 hI hs hun hd
   obtain ⟨v, rfl, hI⟩ := hI
   have d0 := hd ⟨0, .data⟩ (by simp) rfl
   have d1 := hd ⟨20, .data⟩ (by simp) rfl
   obtain ⟨r, l, e1, e2, e3, e4⟩ := hI.m d0
   refine wpOp_at rfl rfl (wp_insert rfl rfl (r := r) (l := l) e1 e3 Tryz.underlying134 Tryz.underlying3 (fun es c hw es2 c2 hA => ?_))
   exact ⟨v, rfl, hI.ins okLitW hs (i := 21) (k := 12) (s := 18) (by decide) hun d1 d0 e1 e2 hw e4 hA (GvW.kc (Kc.put hw)) (fun _ => trivial)⟩
 refine List.forall_mem_cons.2 ⟨?_, ?_⟩
 · -- operation 22
   intro listed a w1 hI hs hun hd
   obtain ⟨v, rfl, hI⟩ := hI
   exact wpOp_at rfl rfl (st_bs1 rfl rfl rfl ⟨_, _, rfl⟩ ⟨upd v 19 (.slice (some ⟨w1.heap.size, 0, none⟩) 1 1), rfl, hI.val okLitW hs (by decide) (by decide) (by decide) hun (Km.of_below ((Below.refl _ _).alloc (Nat.le_refl _) _)) (hI.ext.alloc hI.ext.size _) (GvW.km (Km.of_below ((Below.refl _ _).alloc (Nat.le_refl _) _))) ((SlG.one (c := none) (Nat.le_trans hB0 hI.ext.size) rfl : SlG _ _ _ _)) (fun e => absurd e (by decide))⟩)
 refine List.forall_mem_cons.2 ⟨?_, ?_⟩
 · -- operation 23
   intro listed a w1 hI hs hun hd
   obtain ⟨v, rfl, hI⟩ := hI
   have d0 := hd ⟨0, .data⟩ (by simp) rfl
   have d1 := hd ⟨22, .data⟩ (by simp) rfl
   obtain ⟨r, l, e1, e2, e3, e4⟩ := hI.m d0
   refine wpOp_at rfl rfl (wp_insert rfl rfl (r := r) (l := l) e1 e3 Tryz.underlying134 Tryz.underlying3 (fun es c hw es2 c2 hA => ?_))
   exact ⟨v, rfl, hI.ins okLitW hs (i := 23) (k := 16) (s := 19) (by decide) hun d1 d0 e1 e2 hw e4 hA (GvW.kc (Kc.put hw)) (fun _ => trivial)⟩
 refine List.forall_mem_cons.2 ⟨?_, ?_⟩
 · -- operation 24
   intro listed a w1 hI hs hun hd
   obtain ⟨v, rfl, hI⟩ := hI
   exact wpOp_at rfl rfl (st_bs1 rfl rfl rfl ⟨_, _, rfl⟩ ⟨upd v 20 (.slice (some ⟨w1.heap.size, 0, none⟩) 1 1), rfl, hI.val okLitW hs (by decide) (by decide) (by decide) hun (Km.of_below ((Below.refl _ _).alloc (Nat.le_refl _) _)) (hI.ext.alloc hI.ext.size _) (GvW.km (Km.of_below ((Below.refl _ _).alloc (Nat.le_refl _) _))) ((SlG.one (c := none) (Nat.le_trans hB0 hI.ext.size) rfl : SlG _ _ _ _)) (fun e => absurd e (by decide))⟩)
 refine List.forall_mem_cons.2 ⟨?_, ?_⟩
 · -- operation 25
   intro listed a w1 hI hs hun hd
   obtain ⟨v, rfl, hI⟩ := hI
   have d0 := hd ⟨0, .data⟩ (by simp) rfl
   have d1 := hd ⟨24, .data⟩ (by simp) rfl
   obtain ⟨r, l, e1, e2, e3, e4⟩ := hI.m d0
   refine wpOp_at rfl rfl (wp_insert rfl rfl (r := r) (l := l) e1 e3 Tryz.underlying134 Tryz.underlying3 (fun es c hw es2 c2 hA => ?_))
   exact ⟨v, rfl, hI.ins okLitW hs (i := 25) (k := 13) (s := 20) (by decide) hun d1 d0 e1 e2 hw e4 hA (GvW.kc (Kc.put hw)) (fun _ => trivial)⟩
 refine List.forall_mem_cons.2 ⟨?_, ?_⟩
 · -- operation 26
   intro listed a w1 hI hs hun hd
   obtain ⟨v, rfl, hI⟩ := hI
   exact wpOp_at rfl rfl (st_bs2 rfl rfl rfl rfl ⟨_, _, rfl⟩ ⟨_, _, rfl⟩ ⟨upd v 21 (.slice (some ⟨w1.heap.size, 0, none⟩) 2 2), rfl, hI.val okLitW hs (by decide) (by decide) (by decide) hun (Km.of_below ((Below.refl _ _).alloc (Nat.le_refl _) _)) (hI.ext.alloc hI.ext.size _) (GvW.km (Km.of_below ((Below.refl _ _).alloc (Nat.le_refl _) _))) ((SlG.two0 (Nat.le_trans hB0 hI.ext.size) : SlG _ _ _ _)) (fun e => absurd e (by decide))⟩)
 refine List.forall_mem_cons.2 ⟨?_, ?_⟩
 · -- operation 27
   intro listed a w1 hI hs hun hd
   obtain ⟨v, rfl, hI⟩ := hI
   have d0 := hd ⟨0, .data⟩ (by simp) rfl
   have d1 := hd ⟨26, .data⟩ (by simp) rfl
   obtain ⟨r, l, e1, e2, e3, e4⟩ := hI.m d0
   refine wpOp_at rfl rfl (wp_insert rfl rfl (r := r) (l := l) e1 e3 Tryz.underlying134 Tryz.underlying3 (fun es c hw es2 c2 hA => ?_))
   exact ⟨v, rfl, hI.ins okLitW hs (i := 27) (k := 14) (s := 21) (by decide) hun d1 d0 e1 e2 hw e4 hA (GvW.kc (Kc.put hw)) (fun _ => trivial)⟩
 refine List.forall_mem_cons.2 ⟨?_, ?_⟩
 · -- operation 28
   intro listed a w1 hI hs hun hd
   obtain ⟨v, rfl, hI⟩ := hI
   have hall : ∀ j, j < 28 → listed.getD j false = true := by
    intro j hj
    exact hd ⟨j, .data⟩ (mem28 j hj) rfl
   exact wpOp_at rfl rfl (st_val rfl rfl ⟨upd v 22 (v 4), rfl, hI.val okLitW hs (by decide) (by decide) (by decide) hun (Km.refl _) hI.ext (fun _ _ h => h) (mapG_of hI hall) (fun _ => hall)⟩)
 refine List.forall_mem_cons.2 ⟨?_, ?_⟩
 · -- operation 29
   intro listed a w1 hI hs hun hd
   obtain ⟨v, rfl, hI⟩ := hI
   refine wpOp_at rfl rfl (st_val (u := .pointer (some ⟨bd, 0, none⟩)) (by simp only [execOp, Act.eval, frW]; go_simp) rfl ⟨upd v 23 _, rfl, hI.val okLitW hs (by decide) (by decide) (by decide) hun (Km.refl _) hI.ext (fun _ _ h => h) rfl (fun e => absurd e (by decide))⟩)
 refine List.forall_mem_cons.2 ⟨?_, ?_⟩
 · -- operation 30
   intro listed a w1 hI hs hun hd
   obtain ⟨v, rfl, hI⟩ := hI
   have e1 : v 23 = .pointer (some ⟨bd, 0, none⟩) := hI.g 29 (by decide) (hd ⟨29, .data⟩ (by simp) rfl)
   have x0 := (hI.ext.cell (p := ⟨bd, 0, none⟩) hbd).trans hx0
   refine wpOp_at rfl rfl (st_val (u := .int .i64 d.kind) (by simp only [execOp, Act.eval, frW]; go_simp) rfl ⟨upd v 24 _, rfl, hI.val okLitW hs (by decide) (by decide) (by decide) hun (Km.refl _) hI.ext (fun _ _ h => h) rfl (fun e => absurd e (by decide))⟩)
 refine List.forall_mem_cons.2 ⟨?_, ?_⟩
 · -- operation 31
   intro listed a w1 hI hs hun hd
   obtain ⟨v, rfl, hI⟩ := hI
   have hM : MapG B (v 22) w1 := hI.g 28 (by decide) (hd ⟨28, .data⟩ (by simp) rfl)
   have e2 : v 24 = .int .i64 d.kind := hI.g 30 (by decide) (hd ⟨30, .data⟩ (by simp) rfl)
   obtain ⟨r, l, e1, hA, hS⟩ := hM
   have hl := hA.look1 (P := Tryz.prog) (t := 134) (KT := 3) (E := 94) Tryz.underlying134 Tryz.underlying3 (wants_zero w1) d.kind
   refine wpOp_at rfl rfl (st_val (u := (getA l d.kind).getD (.slice none 0 0)) (look_run (x := .tmp 22) (y := .tmp 24) e1 e2 hl) rfl ⟨upd v 25 _, rfl, hI.val okLitW hs (by decide) (by decide) (by decide) hun (Km.refl _) hI.ext (fun _ _ h => h) (hS d.kind) (fun e => absurd e (by decide))⟩)
 refine List.forall_mem_cons.2 ⟨?_, ?_⟩
 · -- operation 32
   intro listed a w1 hI hs hun hd
   obtain ⟨v, rfl, hI⟩ := hI
   have e1 : SlG B (v 25) (fixedK d.kind) w1 := hI.g 31 (by decide) (hd ⟨31, .data⟩ (by simp) rfl)
   exact wpOp_at rfl rfl (st_val rfl rfl ⟨upd v 3 (v 25), rfl, hI.val okLitW hs (by decide) (by decide) (by decide) hun (Km.refl _) hI.ext (fun _ _ h => h) e1 (fun e => absurd e (by decide))⟩)
 exact fun x hx => absurd hx (by simp)
end Go.Proofs.YtcfogipaadhbeaaGreatDoor
