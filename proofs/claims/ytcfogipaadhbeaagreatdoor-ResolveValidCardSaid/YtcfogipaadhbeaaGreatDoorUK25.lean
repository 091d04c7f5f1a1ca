/- A part of the claim: see its last text. -/
import Derived.Test.YtcfogipaadhbeaaGreatDoorUK24

set_option maxRecDepth 100000
set_option maxHeartbeats 16000000
namespace Go.Proofs.YtcfogipaadhbeaaGreatDoor
open Go Go.RowKit Go.Proofs
def entR (k : Nat) : Value := .agg #[.func (.func (okFn k)) #[] #[], .func (.func (onlyFn k)) #[] #[]]
theorem forms14 (w : World) : Calls Tryz.prog 133 #[] w fun e w' => e = .returned (.map (some w.heap.size)) ∧ w'.heap[w.heap.size]? = some (.map (ents entR 7) 7) ∧ Below w.heap.size w w' := by
 have hmm := @run_makeMap Tryz.prog
 go_enter Tryz.func133, Tryz.ntmps133
 go_wp2_with (refine wpList_insert_next rfl rfl _ _ _ _ rfl Tryz.underlying158 Tryz.underlying3 entR rfl rfl rfl rfl rfl rfl ?_)
 go_ret
 exact ⟨rfl, heap_alloc_new w _, (Below.refl _ _).alloc (Nat.le_refl _) _⟩
theorem look_entR {w : World} {r : Nat} (h : w.heap[r]? = some (.map (ents entR 7) 7)) (k : Int) :
    (Instr.lookup 158 (.map (some r)) (.int .i64 k) true).run Tryz.prog w = .ok (.tuple #[if 0 ≤ k ∧ k < 7 then entR k.toNat else .agg #[.nilFunc, .nilFunc], .bool (decide (0 ≤ k ∧ k < 7))]) w := by
 have hf : Instr.findNow (.int .i64) (.int .i64 k) (ents entR 7).toList 0 = some (if 0 ≤ k ∧ k < 7 then some (k.toNat, entR k.toNat) else none) := find_ents entR 7 k
 have hz : (zeroValue 156).run Tryz.prog w = .ok (.agg #[.nilFunc, .nilFunc]) w := by kernel_rfl
 by_cases hk : 0 ≤ k ∧ k < 7
 · rw [if_pos hk] at hf
   rw [if_pos hk, decide_eq_true hk]
   exact run_lookup_int Tryz.underlying158 Tryz.underlying3 hz h hf (by rfl)
 · rw [if_neg hk] at hf
   rw [if_neg hk, decide_eq_false hk]
   exact run_lookup_int Tryz.underlying158 Tryz.underlying3 hz h hf (by rfl)
theorem rule_plain (m : Mod) (x : RuleM) : ruleOk m x = if 0 ≤ x.kind ∧ x.kind < 7 then okK m x.kind.toNat x && sameR x (onlyK x.kind.toNat x) else false := by
 obtain ⟨kd, it, ot, n, bY, al, ms⟩ := x
 simp only []
 split
 · rename_i h
   have : kd = 0 ∨ kd = 1 ∨ kd = 2 ∨ kd = 3 ∨ kd = 4 ∨ kd = 5 ∨ kd = 6 := by omega
   rcases this with rfl | rfl | rfl | rfl | rfl | rfl | rfl
   all_goals
    rw [Bool.eq_iff_iff]
    simp [ruleOk, okK, onlyK, sameR, noList, wiI]
    try grind
 · unfold ruleOk
   simp only []
   rw [if_neg (by omega), if_neg (by omega), if_neg (by omega), if_neg (by omega), if_neg (by omega), if_neg (by omega), if_neg (by omega)]
theorem ok_any (h : MH) (m : Mod) (k : Nat) (hk : k < 7) (x : RuleM) (A : Option Addr) (c : Nat) (w : World) (d : MD w w.heap.size h m) (hl : x.machines.length ≤ 9223372036854775807) (hI : Ints w w.heap.size A x.machines) :
    Calls Tryz.prog (okFn k) #[.agg #[.slice h.s m.sT.length h.sc, .slice h.f m.fT.length h.fc, .slice h.r m.rT.length h.rc, .slice h.m m.mT.length h.mc, .slice h.l m.lT.length h.lc, .slice h.i m.iT.length h.ic, .int .i64 m.dT, .int .i64 m.oT, .int .i64 m.vT, .int .i64 m.aT, .slice h.u m.uT.length h.uc], .agg #[.int .i64 x.kind, .int .i64 x.item, .int .i64 x.other, .int .i64 x.n, .int .i64 x.by_, .bool x.always, .slice A x.machines.length c]] w fun e w' => e = .returned (.bool (okK m k x)) ∧ Below w.heap.size w w' := by
 match k, hk with
 | 0, _ => exact ok_0 h m x A c w d hl hI
 | 1, _ => exact ok_1 h m x A c w d hl hI
 | 2, _ => exact ok_2 h m x A c w d hl hI
 | 3, _ => exact ok_3 h m x A c w d hl hI
 | 4, _ => exact ok_4 h m x A c w d hl hI
 | 5, _ => exact ok_5 h m x A c w d hl hI
 | 6, _ => exact ok_6 h m x A c w d hl hI
theorem only_any (k : Nat) (hk : k < 7) (x : RuleM) (A : Option Addr) (c : Nat) (w : World) (hl : x.machines.length ≤ 9223372036854775807) (hI : Ints w w.heap.size A x.machines) : ∃ (it ot n bY : Int) (al : Bool) (ms : List Int) (A2 : Option Addr) (c2 : Nat), onlyK k x = ⟨0, it, ot, n, bY, al, ms⟩ ∧ ms.length ≤ 9223372036854775807 ∧ Ints w w.heap.size A2 ms ∧
    Calls Tryz.prog (onlyFn k) #[.agg #[.int .i64 x.kind, .int .i64 x.item, .int .i64 x.other, .int .i64 x.n, .int .i64 x.by_, .bool x.always, .slice A x.machines.length c]] w fun e w' => e = .returned (.agg #[.int .i64 0, .int .i64 it, .int .i64 ot, .int .i64 n, .int .i64 bY, .bool al, .slice A2 ms.length c2]) ∧ Below w.heap.size w w' := by
 have h0 : Ints w w.heap.size none [] := ⟨by simp, fun h => absurd h (by simp)⟩
 match k, hk with
 | 0, _ => exact ⟨_, _, _, _, _, [], none, 0, rfl, by simp, h0, only_0 x A c w⟩
 | 1, _ => exact ⟨_, _, _, _, _, [], none, 0, rfl, by simp, h0, only_1 x A c w⟩
 | 2, _ => exact ⟨_, _, _, _, _, [], none, 0, rfl, by simp, h0, only_2 x A c w⟩
 | 3, _ => exact ⟨_, _, _, _, _, x.machines, A, c, rfl, hl, hI, only_3 x A c w⟩
 | 4, _ => exact ⟨_, _, _, _, _, [], none, 0, rfl, by simp, h0, only_4 x A c w⟩
 | 5, _ => exact ⟨_, _, _, _, _, [], none, 0, rfl, by simp, h0, only_5 x A c w⟩
 | 6, _ => exact ⟨_, _, _, _, _, [], none, 0, rfl, by simp, h0, only_6 x A c w⟩
theorem enter_ok (k : Nat) (hk : k < 7) : ∀ args w, (callFunc (okFn k) args).run Tryz.prog w = .ok (.enter (okFn k) args) w := by
 match k, hk with
 | 0, _ => exact (show ∀ args w, (callFunc 183 args).run Tryz.prog w = .ok (.enter 183 args) w from fun args w => by kernel_rfl)
 | 1, _ => exact (show ∀ args w, (callFunc 186 args).run Tryz.prog w = .ok (.enter 186 args) w from fun args w => by kernel_rfl)
 | 2, _ => exact (show ∀ args w, (callFunc 188 args).run Tryz.prog w = .ok (.enter 188 args) w from fun args w => by kernel_rfl)
 | 3, _ => exact (show ∀ args w, (callFunc 190 args).run Tryz.prog w = .ok (.enter 190 args) w from fun args w => by kernel_rfl)
 | 4, _ => exact (show ∀ args w, (callFunc 192 args).run Tryz.prog w = .ok (.enter 192 args) w from fun args w => by kernel_rfl)
 | 5, _ => exact (show ∀ args w, (callFunc 194 args).run Tryz.prog w = .ok (.enter 194 args) w from fun args w => by kernel_rfl)
 | 6, _ => exact (show ∀ args w, (callFunc 196 args).run Tryz.prog w = .ok (.enter 196 args) w from fun args w => by kernel_rfl)
theorem enter_only (k : Nat) (hk : k < 7) : ∀ args w, (callFunc (onlyFn k) args).run Tryz.prog w = .ok (.enter (onlyFn k) args) w := by
 match k, hk with
 | 0, _ => exact (show ∀ args w, (callFunc 185 args).run Tryz.prog w = .ok (.enter 185 args) w from fun args w => by kernel_rfl)
 | 1, _ => exact (show ∀ args w, (callFunc 187 args).run Tryz.prog w = .ok (.enter 187 args) w from fun args w => by kernel_rfl)
 | 2, _ => exact (show ∀ args w, (callFunc 189 args).run Tryz.prog w = .ok (.enter 189 args) w from fun args w => by kernel_rfl)
 | 3, _ => exact (show ∀ args w, (callFunc 191 args).run Tryz.prog w = .ok (.enter 191 args) w from fun args w => by kernel_rfl)
 | 4, _ => exact (show ∀ args w, (callFunc 193 args).run Tryz.prog w = .ok (.enter 193 args) w from fun args w => by kernel_rfl)
 | 5, _ => exact (show ∀ args w, (callFunc 195 args).run Tryz.prog w = .ok (.enter 195 args) w from fun args w => by kernel_rfl)
 | 6, _ => exact (show ∀ args w, (callFunc 197 args).run Tryz.prog w = .ok (.enter 197 args) w from fun args w => by kernel_rfl)
theorem heap_keep {w : World} {r : Nat} {o' : Obj} (h : w.heap[r]? = some o') (q : Obj) : (w.alloc q).heap[r]? = some o' :=
 (Below.heap_alloc w q r (Array.getElem?_eq_some_iff.1 h).1).trans h
theorem look_yes {w : World} {r k : Nat} (h : w.heap[r]? = some (.map (ents entR 7) 7)) (hk : k < 7) :
    (Instr.lookup 158 (.map (some r)) (.int .i64 (k : Int)) true).run Tryz.prog w = .ok (.tuple #[.agg #[.func (.func (okFn k)) #[] #[], .func (.func (onlyFn k)) #[] #[]], .bool true]) w := by
 rw [look_entR h (k : Int), if_pos (by omega), decide_eq_true (by omega)]; rfl
theorem look_no {w : World} {r : Nat} {kd : Int} (h : w.heap[r]? = some (.map (ents entR 7) 7)) (hk : ¬ (0 ≤ kd ∧ kd < 7)) :
    (Instr.lookup 158 (.map (some r)) (.int .i64 kd) true).run Tryz.prog w = .ok (.tuple #[.agg #[.nilFunc, .nilFunc], .bool false]) w := by
 rw [look_entR h kd, if_neg hk, decide_eq_false hk]
def FormP (w : World) (M X : Array Value) (f1 f2 : Value) (v : Value) (W : World) : Prop :=
 ∃ F, v = .pointer (some ⟨F, 0, none⟩) ∧ Below w.heap.size w W ∧ Blk W w.heap.size 32 M ∧ Blk W (w.heap.size + 1) 62 X ∧ Blk W F 156 #[f1, f2]
theorem rule14_start (w : World) (M X : Array Value) : Below w.heap.size w ((w.alloc (.cells M 32)).alloc (.cells X 62)) ∧ Blk ((w.alloc (.cells M 32)).alloc (.cells X 62)) w.heap.size 32 M ∧ Blk ((w.alloc (.cells M 32)).alloc (.cells X 62)) (w.heap.size + 1) 62 X :=
 ⟨two_boxes2 w M X _ _, (Blk.new w _ M).alloc _, by simpa using Blk.new (w.alloc (.cells M 32)) 62 X⟩
theorem rule14_no (h : MH) (m : Mod) (kd it ot n bY : Int) (al : Bool) (ms : List Int) (A : Option Addr) (c : Nat) (w : World) (hk : ¬ (0 ≤ kd ∧ kd < 7)) :
    Calls Tryz.prog 77 #[.agg #[.slice h.s m.sT.length h.sc, .slice h.f m.fT.length h.fc, .slice h.r m.rT.length h.rc, .slice h.m m.mT.length h.mc, .slice h.l m.lT.length h.lc, .slice h.i m.iT.length h.ic, .int .i64 m.dT, .int .i64 m.oT, .int .i64 m.vT, .int .i64 m.aT, .slice h.u m.uT.length h.uc], .agg #[.int .i64 kd, .int .i64 it, .int .i64 ot, .int .i64 n, .int .i64 bY, .bool al, .slice A ms.length c]] w fun e w' => e = .returned (.bool false) ∧ Below w.heap.size w w' := by
 have H0 := hide (rule14_start w #[.slice h.s m.sT.length h.sc, .slice h.f m.fT.length h.fc, .slice h.r m.rT.length h.rc, .slice h.m m.mT.length h.mc, .slice h.l m.lT.length h.lc, .slice h.i m.iT.length h.ic, .int .i64 m.dT, .int .i64 m.oT, .int .i64 m.vT, .int .i64 m.aT, .slice h.u m.uT.length h.uc] #[.int .i64 kd, .int .i64 it, .int .i64 ot, .int .i64 n, .int .i64 bY, .bool al, .slice A ms.length c])
 have HK := hide hk
 clear hk
 go_enter Tryz.func77, Tryz.ntmps77
 go_wp2_with fail
 go_cut [5, 6] (fun v ok wx => FormP w #[.slice h.s m.sT.length h.sc, .slice h.f m.fT.length h.fc, .slice h.r m.rT.length h.rc, .slice h.m m.mT.length h.mc, .slice h.l m.lT.length h.lc, .slice h.i m.iT.length h.ic, .int .i64 m.dT, .int .i64 m.oT, .int .i64 m.vT, .int .i64 m.aT, .slice h.u m.uT.length h.uc] #[.int .i64 kd, .int .i64 it, .int .i64 ot, .int .i64 n, .int .i64 bY, .bool al, .slice A ms.length c] (.nilFunc) (.nilFunc) v wx ∧ ok = .bool false)
 case first =>
  go_region_held3 (fun W => W.cell? ⟨w.heap.size + 1, 0, none⟩ = some (.int .i64 kd)) (first | go_keep | (with_reducible exact hc0) | exact (World.cell?_alloc_lt _ _ _ (by simp <;> omega)).trans hc0) ((go_at_call 133; refine (forms14 _).mono ?_; rintro e w1 ⟨rfl, hF, hb⟩; simp at hF; have hlk := look_no hF HK.out; have hlk2 := (fun o => look_no (heap_keep hF o) HK.out); have hc0 := (hb.cell (p := ⟨w.heap.size + 1, 0, none⟩) (by simp <;> omega)).trans (by first | exact H0.out.2.2.cell 0 | exact (World.cell?_alloc_lt _ _ _ (by simp <;> omega)).trans (H0.out.2.2.cell 0)); simp at hc0; clear hF; obtain ⟨hcA, hfA⟩ := bcell hb))
  all_goals
   go_wp2_with fail
   go_meet
   refine ⟨?_, rfl⟩
   clear hcA hfA
   have hsz := hb.size
   simp at hsz
   have hb0 : Below w.heap.size w w1 := by
    first
     | exact H0.out.1.drew.trans (hb.mono (by simp <;> omega))
     | exact (H0.out.1.drew.alloc (by simp <;> omega) _).trans (hb.mono (by simp <;> omega))
     | exact H0.out.1.trans (hb.mono (by simp <;> omega))
     | exact (H0.out.1.alloc (by simp <;> omega) _).drew.trans (hb.mono (by simp <;> omega))
     | exact (H0.out.1.alloc (by simp <;> omega) _).trans (hb.mono (by simp <;> omega))
   have hm1 : Blk w1 w.heap.size 32 #[.slice h.s m.sT.length h.sc, .slice h.f m.fT.length h.fc, .slice h.r m.rT.length h.rc, .slice h.m m.mT.length h.mc, .slice h.l m.lT.length h.lc, .slice h.i m.iT.length h.ic, .int .i64 m.dT, .int .i64 m.oT, .int .i64 m.vT, .int .i64 m.aT, .slice h.u m.uT.length h.uc] := by
    first
     | exact Blk.below (Blk.drew H0.out.2.1) hb (by simp <;> omega)
     | exact Blk.below (Blk.drew (H0.out.2.1.alloc _)) hb (by simp <;> omega)
     | exact Blk.below (H0.out.2.1.alloc _) hb (by simp <;> omega)
   have hx1 : Blk w1 (w.heap.size + 1) 62 #[.int .i64 kd, .int .i64 it, .int .i64 ot, .int .i64 n, .int .i64 bY, .bool al, .slice A ms.length c] := by
    first
     | exact Blk.below (Blk.drew H0.out.2.2) hb (by simp <;> omega)
     | exact Blk.below (Blk.drew (H0.out.2.2.alloc _)) hb (by simp <;> omega)
     | exact Blk.below (H0.out.2.2.alloc _) hb (by simp <;> omega)
   first
    | exact ⟨w1.heap.size, rfl, hb0.alloc hb0.size _, hm1.alloc _, hx1.alloc _, Blk.new _ _ _⟩
    | (have hG : Blk w1 (w.heap.size + 1 + 1) 156 #[.nilFunc, .nilFunc] := by
         refine Blk.below (Blk.drew ?_) hb (by simp <;> omega)
         have hg := Blk.new ((w.alloc (.cells #[.slice h.s m.sT.length h.sc, .slice h.f m.fT.length h.fc, .slice h.r m.rT.length h.rc, .slice h.m m.mT.length h.mc, .slice h.l m.lT.length h.lc, .slice h.i m.iT.length h.ic, .int .i64 m.dT, .int .i64 m.oT, .int .i64 m.vT, .int .i64 m.aT, .slice h.u m.uT.length h.uc] 32)).alloc (.cells #[.int .i64 kd, .int .i64 it, .int .i64 ot, .int .i64 n, .int .i64 bY, .bool al, .slice A ms.length c] 62)) 156 #[.nilFunc, .nilFunc]
         simpa using hg
       refine ⟨w.heap.size + 1 + 1, rfl, ?_, ?_, ?_, ?_⟩
       · exact (hb0.setCell (by simp <;> omega) _).setCell (by simp <;> omega) _
       · exact (hm1.far (by simp <;> omega) _).far (by simp <;> omega) _
       · exact (hx1.far (by simp <;> omega) _).far (by simp <;> omega) _
       · have := (hG.set_ 0 (.nilFunc)).set_ 1 (.nilFunc)
         simpa using this)
 case rest =>
  obtain ⟨⟨F, rfl, hbw, hm, hx, hf⟩, rfl⟩ := hcut
  have hU : undef = Value.tuple #[] := rfl
  go_wp2_with fail
  go_quiet (fail)
  go_wp2_with fail
  go_ret
  exact ⟨rfl, below_drawn hbw _⟩
def S15 (w : World) (M X : Array Value) (f1 f2 : Value) (F : Nat) (W : World) : Prop := Blk W w.heap.size 32 M ∧ Blk W (w.heap.size + 1) 62 X ∧ Blk W F 156 #[f1, f2] ∧ Below w.heap.size w W
theorem S15.drew {w : World} {M X : Array Value} {f1 f2 : Value} {F : Nat} {W : World} (s : S15 w M X f1 f2 F W) : S15 w M X f1 f2 F W.drew := ⟨s.1, s.2.1, s.2.2.1, s.2.2.2.drew⟩
theorem S15.grow {w : World} {M X : Array Value} {f1 f2 : Value} {F : Nat} {W W2 : World} (s : S15 w M X f1 f2 F W) (hb : Below W.heap.size W W2) : S15 w M X f1 f2 F W2 := ⟨s.1.below hb s.1.lt, s.2.1.below hb s.2.1.lt, s.2.2.1.below hb s.2.2.1.lt, s.2.2.2.trans (hb.mono s.2.2.2.size)⟩
theorem S15.cells {w : World} {h : MH} {m : Mod} {k : Nat} {it ot n bY : Int} {al : Bool} {A : Option Addr} {c : Nat} {ms : List Int} {F : Nat} {W : World} (s : S15 w #[.slice h.s m.sT.length h.sc, .slice h.f m.fT.length h.fc, .slice h.r m.rT.length h.rc, .slice h.m m.mT.length h.mc, .slice h.l m.lT.length h.lc, .slice h.i m.iT.length h.ic, .int .i64 m.dT, .int .i64 m.oT, .int .i64 m.vT, .int .i64 m.aT, .slice h.u m.uT.length h.uc] #[.int .i64 (k : Int), .int .i64 it, .int .i64 ot, .int .i64 n, .int .i64 bY, .bool al, .slice A ms.length c] (.func (.func (okFn k)) #[] #[]) (.func (.func (onlyFn k)) #[] #[]) F W) :
    W.cell? ⟨w.heap.size, 0, none⟩ = some (.slice h.s m.sT.length h.sc) ∧ W.cell? ⟨w.heap.size, 1, none⟩ = some (.slice h.f m.fT.length h.fc) ∧ W.cell? ⟨w.heap.size, 2, none⟩ = some (.slice h.r m.rT.length h.rc) ∧ W.cell? ⟨w.heap.size, 3, none⟩ = some (.slice h.m m.mT.length h.mc) ∧ W.cell? ⟨w.heap.size, 4, none⟩ = some (.slice h.l m.lT.length h.lc) ∧ W.cell? ⟨w.heap.size, 5, none⟩ = some (.slice h.i m.iT.length h.ic) ∧ W.cell? ⟨w.heap.size, 6, none⟩ = some (.int .i64 m.dT) ∧ W.cell? ⟨w.heap.size, 7, none⟩ = some (.int .i64 m.oT) ∧ W.cell? ⟨w.heap.size, 8, none⟩ = some (.int .i64 m.vT) ∧ W.cell? ⟨w.heap.size, 9, none⟩ = some (.int .i64 m.aT) ∧ W.cell? ⟨w.heap.size, 10, none⟩ = some (.slice h.u m.uT.length h.uc) ∧ W.cell? ⟨w.heap.size + 1, 0, none⟩ = some (.int .i64 (k : Int)) ∧ W.cell? ⟨w.heap.size + 1, 1, none⟩ = some (.int .i64 it) ∧ W.cell? ⟨w.heap.size + 1, 2, none⟩ = some (.int .i64 ot) ∧ W.cell? ⟨w.heap.size + 1, 3, none⟩ = some (.int .i64 n) ∧ W.cell? ⟨w.heap.size + 1, 4, none⟩ = some (.int .i64 bY) ∧ W.cell? ⟨w.heap.size + 1, 5, none⟩ = some (.bool al) ∧ W.cell? ⟨w.heap.size + 1, 6, none⟩ = some (.slice A ms.length c) ∧ W.cell? ⟨F, 0, none⟩ = some (.func (.func (okFn k)) #[] #[]) ∧ W.cell? ⟨F, 1, none⟩ = some (.func (.func (onlyFn k)) #[] #[]) :=
 ⟨s.1.cell 0, s.1.cell 1, s.1.cell 2, s.1.cell 3, s.1.cell 4, s.1.cell 5, s.1.cell 6, s.1.cell 7, s.1.cell 8, s.1.cell 9, s.1.cell 10, s.2.1.cell 0, s.2.1.cell 1, s.2.1.cell 2, s.2.1.cell 3, s.2.1.cell 4, s.2.1.cell 5, s.2.1.cell 6, s.2.2.1.cell 0, s.2.2.1.cell 1⟩
theorem rule14_yes (h : MH) (m : Mod) (k : Nat) (hk7 : k < 7) (it ot n bY : Int) (al : Bool) (ms : List Int) (A : Option Addr) (c : Nat) (w : World) (d : MD w w.heap.size h m) (hl : ms.length ≤ 9223372036854775807) (hI : Ints w w.heap.size A ms) :
    Calls Tryz.prog 77 #[.agg #[.slice h.s m.sT.length h.sc, .slice h.f m.fT.length h.fc, .slice h.r m.rT.length h.rc, .slice h.m m.mT.length h.mc, .slice h.l m.lT.length h.lc, .slice h.i m.iT.length h.ic, .int .i64 m.dT, .int .i64 m.oT, .int .i64 m.vT, .int .i64 m.aT, .slice h.u m.uT.length h.uc], .agg #[.int .i64 (k : Int), .int .i64 it, .int .i64 ot, .int .i64 n, .int .i64 bY, .bool al, .slice A ms.length c]] w fun e w' => e = .returned (.bool (okK m k ⟨k, it, ot, n, bY, al, ms⟩ && sameR ⟨k, it, ot, n, bY, al, ms⟩ (onlyK k ⟨k, it, ot, n, bY, al, ms⟩))) ∧ Below w.heap.size w w' := by
 have H0 := hide (rule14_start w #[.slice h.s m.sT.length h.sc, .slice h.f m.fT.length h.fc, .slice h.r m.rT.length h.rc, .slice h.m m.mT.length h.mc, .slice h.l m.lT.length h.lc, .slice h.i m.iT.length h.ic, .int .i64 m.dT, .int .i64 m.oT, .int .i64 m.vT, .int .i64 m.aT, .slice h.u m.uT.length h.uc] #[.int .i64 (k : Int), .int .i64 it, .int .i64 ot, .int .i64 n, .int .i64 bY, .bool al, .slice A ms.length c])
 have hgt : ¬ (7 ≤ k) := by omega
 have D := hide (And.intro d hI)
 clear d hI
 go_enter Tryz.func77, Tryz.ntmps77
 go_wp2_with fail
 go_cut [5, 6] (fun v ok wx => FormP w #[.slice h.s m.sT.length h.sc, .slice h.f m.fT.length h.fc, .slice h.r m.rT.length h.rc, .slice h.m m.mT.length h.mc, .slice h.l m.lT.length h.lc, .slice h.i m.iT.length h.ic, .int .i64 m.dT, .int .i64 m.oT, .int .i64 m.vT, .int .i64 m.aT, .slice h.u m.uT.length h.uc] #[.int .i64 (k : Int), .int .i64 it, .int .i64 ot, .int .i64 n, .int .i64 bY, .bool al, .slice A ms.length c] (.func (.func (okFn k)) #[] #[]) (.func (.func (onlyFn k)) #[] #[]) v wx ∧ ok = .bool true)
 case first =>
  go_region_held3 (fun W => W.cell? ⟨w.heap.size + 1, 0, none⟩ = some (.int .i64 (k : Int))) (first | go_keep | (with_reducible exact hc0) | exact (World.cell?_alloc_lt _ _ _ (by simp <;> omega)).trans hc0) ((go_at_call 133; refine (forms14 _).mono ?_; rintro e w1 ⟨rfl, hF, hb⟩; simp at hF; have hlk := look_yes hF hk7; have hlk2 := (fun o => look_yes (heap_keep hF o) hk7); have hc0 := (hb.cell (p := ⟨w.heap.size + 1, 0, none⟩) (by simp <;> omega)).trans (by first | exact H0.out.2.2.cell 0 | exact (World.cell?_alloc_lt _ _ _ (by simp <;> omega)).trans (H0.out.2.2.cell 0)); simp at hc0; clear hF; obtain ⟨hcA, hfA⟩ := bcell hb))
  all_goals
   go_wp2_with fail
   go_meet
   refine ⟨?_, rfl⟩
   clear hcA hfA
   have hsz := hb.size
   simp at hsz
   have hb0 : Below w.heap.size w w1 := by
    first
     | exact H0.out.1.drew.trans (hb.mono (by simp <;> omega))
     | exact (H0.out.1.drew.alloc (by simp <;> omega) _).trans (hb.mono (by simp <;> omega))
     | exact H0.out.1.trans (hb.mono (by simp <;> omega))
     | exact (H0.out.1.alloc (by simp <;> omega) _).drew.trans (hb.mono (by simp <;> omega))
     | exact (H0.out.1.alloc (by simp <;> omega) _).trans (hb.mono (by simp <;> omega))
   have hm1 : Blk w1 w.heap.size 32 #[.slice h.s m.sT.length h.sc, .slice h.f m.fT.length h.fc, .slice h.r m.rT.length h.rc, .slice h.m m.mT.length h.mc, .slice h.l m.lT.length h.lc, .slice h.i m.iT.length h.ic, .int .i64 m.dT, .int .i64 m.oT, .int .i64 m.vT, .int .i64 m.aT, .slice h.u m.uT.length h.uc] := by
    first
     | exact Blk.below (Blk.drew H0.out.2.1) hb (by simp <;> omega)
     | exact Blk.below (Blk.drew (H0.out.2.1.alloc _)) hb (by simp <;> omega)
     | exact Blk.below (H0.out.2.1.alloc _) hb (by simp <;> omega)
   have hx1 : Blk w1 (w.heap.size + 1) 62 #[.int .i64 (k : Int), .int .i64 it, .int .i64 ot, .int .i64 n, .int .i64 bY, .bool al, .slice A ms.length c] := by
    first
     | exact Blk.below (Blk.drew H0.out.2.2) hb (by simp <;> omega)
     | exact Blk.below (Blk.drew (H0.out.2.2.alloc _)) hb (by simp <;> omega)
     | exact Blk.below (H0.out.2.2.alloc _) hb (by simp <;> omega)
   first
    | exact ⟨w1.heap.size, rfl, hb0.alloc hb0.size _, hm1.alloc _, hx1.alloc _, Blk.new _ _ _⟩
    | (have hG : Blk w1 (w.heap.size + 1 + 1) 156 #[.nilFunc, .nilFunc] := by
         refine Blk.below (Blk.drew ?_) hb (by simp <;> omega)
         have hg := Blk.new ((w.alloc (.cells #[.slice h.s m.sT.length h.sc, .slice h.f m.fT.length h.fc, .slice h.r m.rT.length h.rc, .slice h.m m.mT.length h.mc, .slice h.l m.lT.length h.lc, .slice h.i m.iT.length h.ic, .int .i64 m.dT, .int .i64 m.oT, .int .i64 m.vT, .int .i64 m.aT, .slice h.u m.uT.length h.uc] 32)).alloc (.cells #[.int .i64 (k : Int), .int .i64 it, .int .i64 ot, .int .i64 n, .int .i64 bY, .bool al, .slice A ms.length c] 62)) 156 #[.nilFunc, .nilFunc]
         simpa using hg
       refine ⟨w.heap.size + 1 + 1, rfl, ?_, ?_, ?_, ?_⟩
       · exact (hb0.setCell (by simp <;> omega) _).setCell (by simp <;> omega) _
       · exact (hm1.far (by simp <;> omega) _).far (by simp <;> omega) _
       · exact (hx1.far (by simp <;> omega) _).far (by simp <;> omega) _
       · have := (hG.set_ 0 (.func (.func (okFn k)) #[] #[])).set_ 1 (.func (.func (onlyFn k)) #[] #[])
         simpa using this)
 case rest =>
  obtain ⟨⟨F, rfl, hbw, hm, hx, hf⟩, rfl⟩ := hcut
  have e1 := enter_ok k hk7
  have e2 := enter_only k hk7
  have e3 := enter_ok k hk7
  have hcl := ok_any h m k hk7 ⟨k, it, ot, n, bY, al, ms⟩ A c wc.drew (D.out.1.grow hbw.drew) hl (D.out.2.grow hbw.drew)
  have HO := hide fun (W : World) (hW : Below w.heap.size w W) => only_any k hk7 ⟨k, it, ot, n, bY, al, ms⟩ A c W hl (D.out.2.grow hW)
  have HS := hide (show S15 w #[.slice h.s m.sT.length h.sc, .slice h.f m.fT.length h.fc, .slice h.r m.rT.length h.rc, .slice h.m m.mT.length h.mc, .slice h.l m.lT.length h.lc, .slice h.i m.iT.length h.ic, .int .i64 m.dT, .int .i64 m.oT, .int .i64 m.vT, .int .i64 m.aT, .slice h.u m.uT.length h.uc] #[.int .i64 (k : Int), .int .i64 it, .int .i64 ot, .int .i64 n, .int .i64 bY, .bool al, .slice A ms.length c] (.func (.func (okFn k)) #[] #[]) (.func (.func (onlyFn k)) #[] #[]) F wc from ⟨hm, hx, hf, hbw⟩)
  clear hbw hm hx hf e3
  have hU : undef = Value.tuple #[] := rfl
  rcases (show okK m k ⟨k, it, ot, n, bY, al, ms⟩ = true ∨ okK m k ⟨k, it, ot, n, bY, al, ms⟩ = false by cases okK m k ⟨k, it, ot, n, bY, al, ms⟩ <;> simp) with q1 | q1
  · have HQ1 := hide q1
    clear q1
    rw [HQ1.out] at hcl
    have HCL := hide hcl
    clear hcl
    go_wp2_with fail
    go_region_held3 (fun W => (W.cell? ⟨w.heap.size, 0, none⟩ = some (.slice h.s m.sT.length h.sc) ∧ W.cell? ⟨w.heap.size, 1, none⟩ = some (.slice h.f m.fT.length h.fc) ∧ W.cell? ⟨w.heap.size, 2, none⟩ = some (.slice h.r m.rT.length h.rc) ∧ W.cell? ⟨w.heap.size, 3, none⟩ = some (.slice h.m m.mT.length h.mc) ∧ W.cell? ⟨w.heap.size, 4, none⟩ = some (.slice h.l m.lT.length h.lc) ∧ W.cell? ⟨w.heap.size, 5, none⟩ = some (.slice h.i m.iT.length h.ic) ∧ W.cell? ⟨w.heap.size, 6, none⟩ = some (.int .i64 m.dT) ∧ W.cell? ⟨w.heap.size, 7, none⟩ = some (.int .i64 m.oT) ∧ W.cell? ⟨w.heap.size, 8, none⟩ = some (.int .i64 m.vT) ∧ W.cell? ⟨w.heap.size, 9, none⟩ = some (.int .i64 m.aT) ∧ W.cell? ⟨w.heap.size, 10, none⟩ = some (.slice h.u m.uT.length h.uc) ∧ W.cell? ⟨w.heap.size + 1, 0, none⟩ = some (.int .i64 (k : Int)) ∧ W.cell? ⟨w.heap.size + 1, 1, none⟩ = some (.int .i64 it) ∧ W.cell? ⟨w.heap.size + 1, 2, none⟩ = some (.int .i64 ot) ∧ W.cell? ⟨w.heap.size + 1, 3, none⟩ = some (.int .i64 n) ∧ W.cell? ⟨w.heap.size + 1, 4, none⟩ = some (.int .i64 bY) ∧ W.cell? ⟨w.heap.size + 1, 5, none⟩ = some (.bool al) ∧ W.cell? ⟨w.heap.size + 1, 6, none⟩ = some (.slice A ms.length c) ∧ W.cell? ⟨F, 0, none⟩ = some (.func (.func (okFn k)) #[] #[]) ∧ W.cell? ⟨F, 1, none⟩ = some (.func (.func (onlyFn k)) #[] #[])) ∧ S15 w #[.slice h.s m.sT.length h.sc, .slice h.f m.fT.length h.fc, .slice h.r m.rT.length h.rc, .slice h.m m.mT.length h.mc, .slice h.l m.lT.length h.lc, .slice h.i m.iT.length h.ic, .int .i64 m.dT, .int .i64 m.oT, .int .i64 m.vT, .int .i64 m.aT, .slice h.u m.uT.length h.uc] #[.int .i64 (k : Int), .int .i64 it, .int .i64 ot, .int .i64 n, .int .i64 bY, .bool al, .slice A ms.length c] (.func (.func (okFn k)) #[] #[]) (.func (.func (onlyFn k)) #[] #[]) F W) ((with_reducible (first | (go_keep; done) | exact ⟨S15.cells HS.out.drew, HS.out.drew⟩ | exact ⟨S15.cells c7, c7⟩ | exact ⟨S15.cells c9, c9⟩ | exact ⟨S15.cells c8, c8⟩ | exact ⟨S15.cells (S15.drew c9), S15.drew c9⟩ | (have hH := (by assumption : _ ∧ S15 _ _ _ _ _ _ _); exact ⟨S15.cells (S15.drew hH.2), S15.drew hH.2⟩)))) (((first
        | ((with_reducible refine HCL.out.mono ?_); rintro e w1 ⟨rfl, hb1⟩; have c8 := S15.grow HS.out.drew hb1; obtain ⟨it2, ot2, n2, bY2, al2, ms2, A2, c2, HEQ, hl2, hI2, hcO⟩ := HO.out w1 c8.2.2.2; have HQ := hide HEQ; clear HEQ; have HCO := hide hcO; clear hcO)
        | ((with_reducible refine HCO.out.mono ?_); rintro e w2 ⟨rfl, hb2⟩; have c9 := S15.grow c8 hb2; have HI2 := hI2.grow hb2; have HSM := hide (sameR_prog ⟨k, it, ot, n, bY, al, ms⟩ ⟨0, it2, ot2, n2, bY2, al2, ms2⟩ A A2 c c2 w2 hl hl2 (D.out.2.grow c9.2.2.2) HI2))
        | ((with_reducible refine HSM.out.mono ?_); rintro e w3 ⟨rfl, hb3⟩; have c7 := S15.grow c9 hb3))))
    all_goals
     go_wp2_with fail
     go_ret
     exact ⟨ret_congr (by rw [HQ1.out, HQ.out]; rfl), c7.2.2.2⟩
  · have HQ1 := hide q1
    clear q1
    rw [HQ1.out] at hcl
    have HCL := hide hcl
    clear hcl
    go_wp2_with fail
    refine wp_region_held_drew (S := fun W => (W.cell? ⟨w.heap.size, 0, none⟩ = some (.slice h.s m.sT.length h.sc) ∧ W.cell? ⟨w.heap.size, 1, none⟩ = some (.slice h.f m.fT.length h.fc) ∧ W.cell? ⟨w.heap.size, 2, none⟩ = some (.slice h.r m.rT.length h.rc) ∧ W.cell? ⟨w.heap.size, 3, none⟩ = some (.slice h.m m.mT.length h.mc) ∧ W.cell? ⟨w.heap.size, 4, none⟩ = some (.slice h.l m.lT.length h.lc) ∧ W.cell? ⟨w.heap.size, 5, none⟩ = some (.slice h.i m.iT.length h.ic) ∧ W.cell? ⟨w.heap.size, 6, none⟩ = some (.int .i64 m.dT) ∧ W.cell? ⟨w.heap.size, 7, none⟩ = some (.int .i64 m.oT) ∧ W.cell? ⟨w.heap.size, 8, none⟩ = some (.int .i64 m.vT) ∧ W.cell? ⟨w.heap.size, 9, none⟩ = some (.int .i64 m.aT) ∧ W.cell? ⟨w.heap.size, 10, none⟩ = some (.slice h.u m.uT.length h.uc) ∧ W.cell? ⟨w.heap.size + 1, 0, none⟩ = some (.int .i64 (k : Int)) ∧ W.cell? ⟨w.heap.size + 1, 1, none⟩ = some (.int .i64 it) ∧ W.cell? ⟨w.heap.size + 1, 2, none⟩ = some (.int .i64 ot) ∧ W.cell? ⟨w.heap.size + 1, 3, none⟩ = some (.int .i64 n) ∧ W.cell? ⟨w.heap.size + 1, 4, none⟩ = some (.int .i64 bY) ∧ W.cell? ⟨w.heap.size + 1, 5, none⟩ = some (.bool al) ∧ W.cell? ⟨w.heap.size + 1, 6, none⟩ = some (.slice A ms.length c) ∧ W.cell? ⟨F, 0, none⟩ = some (.func (.func (okFn k)) #[] #[]) ∧ W.cell? ⟨F, 1, none⟩ = some (.func (.func (onlyFn k)) #[] #[])) ∧ S15 w #[.slice h.s m.sT.length h.sc, .slice h.f m.fT.length h.fc, .slice h.r m.rT.length h.rc, .slice h.m m.mT.length h.mc, .slice h.l m.lT.length h.lc, .slice h.i m.iT.length h.ic, .int .i64 m.dT, .int .i64 m.oT, .int .i64 m.vT, .int .i64 m.aT, .slice h.u m.uT.length h.uc] #[.int .i64 (k : Int), .int .i64 it, .int .i64 ot, .int .i64 n, .int .i64 bY, .bool al, .slice A ms.length c] (.func (.func (okFn k)) #[] #[]) (.func (.func (onlyFn k)) #[] #[]) F W) (by kernel_rfl) (by exact ⟨S15.cells HS.out.drew, HS.out.drew⟩) (fun hHeld => ?_)
    refine wpAnyH_take (i := 0) (oi := _) (v := ?_) rfl (by kernel_rfl) (by kernel_rfl) (by kernel_rfl) (fun _ _ _ h => h) (Or.inl ⟨by rfl, ?_⟩) hHeld ?_
    rotate_left
    · intro W hSw; (try dsimp only at hSw); go_simp; try with_reducible rfl
    simp only [Act.put, List.getElem_toArray, List.getElem_cons_zero, List.setIfInBounds_toArray, List.set_cons_zero, List.set_cons_succ]
    refine wpAnyH_take (i := 1) (oi := _) (v := ?_) rfl (by kernel_rfl) (by kernel_rfl) (by kernel_rfl) (fun _ _ _ h => h) (Or.inl ⟨by rfl, ?_⟩) hHeld ?_
    rotate_left
    · intro W hSw; (try dsimp only at hSw); go_simp; try with_reducible rfl
    simp only [Act.put, List.getElem_toArray, List.getElem_cons_succ, List.getElem_cons_zero, List.setIfInBounds_toArray, List.set_cons_zero, List.set_cons_succ]
    refine wpAnyH_take (i := 2) (oi := _) (v := ?_) rfl (by kernel_rfl) (by kernel_rfl) (by kernel_rfl) (fun _ _ _ h => h) (Or.inl ⟨by rfl, ?_⟩) hHeld ?_
    rotate_left
    · intro W hSw; (try dsimp only at hSw); go_simp; try with_reducible rfl
    simp only [Act.put, List.getElem_toArray, List.getElem_cons_succ, List.getElem_cons_zero, List.setIfInBounds_toArray, List.set_cons_zero, List.set_cons_succ]
    refine wpAnyH_take (i := 3) (oi := _) (v := ?_) rfl (by kernel_rfl) (by kernel_rfl) (by kernel_rfl) (fun _ _ _ h => h) (Or.inl ⟨by rfl, ?_⟩) hHeld ?_
    rotate_left
    · intro W hSw; (try dsimp only at hSw); go_simp; try with_reducible rfl
    simp only [Act.put, List.getElem_toArray, List.getElem_cons_succ, List.getElem_cons_zero, List.setIfInBounds_toArray, List.set_cons_zero, List.set_cons_succ]
    refine wpAnyH_take (i := 4) (oi := _) (v := ?_) rfl (by kernel_rfl) (by kernel_rfl) (by kernel_rfl) (fun _ _ _ h => h) (Or.inl ⟨by rfl, ?_⟩) hHeld ?_
    rotate_left
    · intro W hSw; (try dsimp only at hSw); go_simp; try with_reducible rfl
    simp only [Act.put, List.getElem_toArray, List.getElem_cons_succ, List.getElem_cons_zero, List.setIfInBounds_toArray, List.set_cons_zero, List.set_cons_succ]
    refine wpAnyH_take (i := 5) (oi := _) (v := ?_) rfl (by kernel_rfl) (by kernel_rfl) (by kernel_rfl) (fun _ _ _ h => h) (Or.inl ⟨by rfl, ?_⟩) hHeld ?_
    rotate_left
    · intro W hSw; (try dsimp only at hSw); go_simp; try with_reducible rfl
    simp only [Act.put, List.getElem_toArray, List.getElem_cons_succ, List.getElem_cons_zero, List.setIfInBounds_toArray, List.set_cons_zero, List.set_cons_succ]
    refine wpAnyH_ready (rs := [6]) (by kernel_rfl) (by simp) ?_
    refine AllReadyH.cons rfl (fun K hK => ?_) AllReadyH.nil
    go_simp
    (with_reducible refine HCL.out.mono ?_)
    rintro e w1 ⟨rfl, hb1⟩
    have c8 := S15.grow HS.out.drew hb1
    dsimp only
    refine hK.out _ _ (by exact ⟨S15.cells c8, c8⟩) (fun hHeld => ?_)
    clear hK K
    refine wpAnyH_take (i := 7) (oi := _) (v := ?_) rfl (by kernel_rfl) (by kernel_rfl) (by kernel_rfl) (fun _ _ _ h => h) (Or.inl ⟨by rfl, ?_⟩) hHeld ?_
    rotate_left
    · intro W hSw; (try dsimp only at hSw); go_simp; try with_reducible rfl
    simp only [Act.put, List.getElem_toArray, List.getElem_cons_succ, List.getElem_cons_zero, List.setIfInBounds_toArray, List.set_cons_zero, List.set_cons_succ]
    refine wpAnyH_take (i := 8) (oi := _) (v := ?_) rfl (by kernel_rfl) (by kernel_rfl) (by kernel_rfl) (fun _ _ _ h => h) (Or.inl ⟨by rfl, ?_⟩) hHeld ?_
    rotate_left
    · intro W hSw; (try dsimp only at hSw); go_simp; try with_reducible rfl
    simp only [Act.put, List.getElem_toArray, List.getElem_cons_succ, List.getElem_cons_zero, List.setIfInBounds_toArray, List.set_cons_zero, List.set_cons_succ]
    refine wpAnyH_take (i := 9) (oi := _) (v := _) rfl (by kernel_rfl) (by kernel_rfl) (by kernel_rfl) (fun _ _ _ h => h) (Or.inr ⟨by rfl, rfl⟩) hHeld ?_
    simp only [Act.put, List.getElem_toArray, List.getElem_cons_succ, List.getElem_cons_zero, List.setIfInBounds_toArray, List.set_cons_zero, List.set_cons_succ]
    refine wpAnyH_take (i := 10) (oi := _) (v := _) rfl (by kernel_rfl) (by kernel_rfl) (by kernel_rfl) (fun _ _ _ h => h) (Or.inr ⟨by rfl, rfl⟩) hHeld ?_
    simp only [Act.put, List.getElem_toArray, List.getElem_cons_succ, List.getElem_cons_zero, List.setIfInBounds_toArray, List.set_cons_zero, List.set_cons_succ]
    refine wpAnyH_take (i := 11) (oi := _) (v := _) rfl (by kernel_rfl) (by kernel_rfl) (by kernel_rfl) (fun _ _ _ h => h) (Or.inr ⟨by rfl, rfl⟩) hHeld ?_
    simp only [Act.put, List.getElem_toArray, List.getElem_cons_succ, List.getElem_cons_zero, List.setIfInBounds_toArray, List.set_cons_zero, List.set_cons_succ]
    refine wpAnyH_take (i := 12) (oi := _) (v := _) rfl (by kernel_rfl) (by kernel_rfl) (by kernel_rfl) (fun _ _ _ h => h) (Or.inr ⟨by rfl, rfl⟩) hHeld ?_
    simp only [Act.put, List.getElem_toArray, List.getElem_cons_succ, List.getElem_cons_zero, List.setIfInBounds_toArray, List.set_cons_zero, List.set_cons_succ]
    refine wpAnyH_take (i := 13) (oi := _) (v := _) rfl (by kernel_rfl) (by kernel_rfl) (by kernel_rfl) (fun _ _ _ h => h) (Or.inr ⟨by rfl, rfl⟩) hHeld ?_
    simp only [Act.put, List.getElem_toArray, List.getElem_cons_succ, List.getElem_cons_zero, List.setIfInBounds_toArray, List.set_cons_zero, List.set_cons_succ]
    refine wpAnyH_take (i := 14) (oi := _) (v := _) rfl (by kernel_rfl) (by kernel_rfl) (by kernel_rfl) (fun _ _ _ h => h) (Or.inr ⟨by rfl, rfl⟩) hHeld ?_
    simp only [Act.put, List.getElem_toArray, List.getElem_cons_succ, List.getElem_cons_zero, List.setIfInBounds_toArray, List.set_cons_zero, List.set_cons_succ]
    refine wpAnyH_take (i := 15) (oi := _) (v := ?_) rfl (by kernel_rfl) (by kernel_rfl) (by kernel_rfl) (fun _ _ _ h => h) (Or.inl ⟨by rfl, ?_⟩) hHeld ?_
    rotate_left
    · intro W hSw; (try dsimp only at hSw); go_simp; try with_reducible rfl
    simp only [Act.put, List.getElem_toArray, List.getElem_cons_succ, List.getElem_cons_zero, List.setIfInBounds_toArray, List.set_cons_zero, List.set_cons_succ]
    refine wpAnyH_take (i := 16) (oi := _) (v := ?_) rfl (by kernel_rfl) (by kernel_rfl) (by kernel_rfl) (fun _ _ _ h => h) (Or.inl ⟨by rfl, ?_⟩) hHeld ?_
    rotate_left
    · intro W hSw; (try dsimp only at hSw); go_simp; try with_reducible rfl
    simp only [Act.put, List.getElem_toArray, List.getElem_cons_succ, List.getElem_cons_zero, List.setIfInBounds_toArray, List.set_cons_zero, List.set_cons_succ]
    refine wpAnyH_done (by kernel_rfl) ?_ _
    go_wp2_with fail
    go_ret
    exact ⟨ret_congr (by rw [HQ1.out]; rfl), c8.2.2.2⟩
theorem rule14_ok (h : MH) (m : Mod) (x : RuleM) (A : Option Addr) (c : Nat) (w : World) (d : MD w w.heap.size h m) (hl : x.machines.length ≤ 9223372036854775807) (hI : Ints w w.heap.size A x.machines) :
    Calls Tryz.prog 77 #[.agg #[.slice h.s m.sT.length h.sc, .slice h.f m.fT.length h.fc, .slice h.r m.rT.length h.rc, .slice h.m m.mT.length h.mc, .slice h.l m.lT.length h.lc, .slice h.i m.iT.length h.ic, .int .i64 m.dT, .int .i64 m.oT, .int .i64 m.vT, .int .i64 m.aT, .slice h.u m.uT.length h.uc], .agg #[.int .i64 x.kind, .int .i64 x.item, .int .i64 x.other, .int .i64 x.n, .int .i64 x.by_, .bool x.always, .slice A x.machines.length c]] w fun e w' => e = .returned (.bool (ruleOk m x)) ∧ Below w.heap.size w w' := by
 have hp := rule_plain m x
 obtain ⟨kd, it, ot, n, bY, al, ms⟩ := x
 simp only at hl hI hp
 by_cases hk : 0 ≤ kd ∧ kd < 7
 · obtain ⟨k, rfl⟩ : ∃ k : Nat, kd = k := ⟨kd.toNat, by omega⟩
   have hk7 : k < 7 := by omega
   rw [if_pos hk] at hp
   rw [hp]
   simp only [Int.toNat_natCast]
   exact rule14_yes h m k hk7 it ot n bY al ms A c w d hl hI
 · rw [if_neg hk] at hp
   rw [hp]
   exact rule14_no h m kd it ot n bY al ms A c w hk
end Go.Proofs.YtcfogipaadhbeaaGreatDoor
