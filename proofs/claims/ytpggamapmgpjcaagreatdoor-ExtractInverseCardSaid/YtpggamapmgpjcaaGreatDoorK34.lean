/- The walk of slices.Compact over steps. Conditions: lengths that fit memory. A row of structs of the call's own, sorted by the library. Conditions: lengths that fit memory. -/
import Derived.Test.YtpggamapmgpjcaaGreatDoorK32
import Derived.Test.YtpggamapmgpjcaaGreatDoorK31
import Derived.Test.YtpggamapmgpjcaaGreatDoorK08
import Derived.Lib.SliceRun
import Derived.Deep.QuietTactic
import Derived.BigQuiet
import Derived.Test.YtpggamapmgpjcaaGreatDoorK29
import Derived.Test.YtpggamapmgpjcaaGreatDoorK10
import Derived.Shelf.SlSortCmp.WholeK
import Derived.Sort.OwnSorted

namespace Go.Proofs.YtpggamapmgpjcaaGreatDoor
open Go Go.RowKit Go.Proofs

/-- what Compact keeps behind x -/
def tailG (x : StM) : List StM → List StM
  | [] => []
  | y :: l => if y = x then tailG x l else y :: tailG y l
theorem compG_tail (x : StM) (l : List StM) : compG x l = x :: tailG x l := by
  induction l generalizing x with
  | nil => rfl
  | cons y l ih =>
    rw [compG, tailG]
    split
    · exact ih x
    · rw [ih y]
theorem tailG_len (l : List StM) : ∀ x, (tailG x l).length ≤ l.length := by
  induction l with
  | nil => intro x; simp [tailG]
  | cons y l ih =>
    intro x
    rw [tailG]
    split
    · have := ih x; simp; omega
    · have := ih y; simp; omega
theorem tail_at {s : List StM} {p : Nat} (h : p + 1 < s.length) : tailG s[p] (s.drop (p + 1)) = if s[p + 1] = s[p] then tailG s[p + 1] (s.drop (p + 2)) else s[p + 1] :: tailG s[p + 1] (s.drop (p + 2)) := by
  rw [List.drop_eq_getElem_cons h, tailG]
  split
  · rename_i e; rw [e]
  · rfl
/-- 'clear' of a slice of structs -/
theorem run_clear_k {P : Program} (w : World) (t e ty : TypeId) (z : Value) (ht : P.underlying t = some (.slice e)) (hv : ∀ w, (zeroValue e).run P w = .ok z w) (h1 : ∀ v ∈ z.cells, v.oneCell' = true) (hz : 0 < z.cells.size) (b o n c : Nat) (hn : 0 < n)
    (hc : ∀ j, j < n * z.cells.size → (w.cell? ⟨b, o + j, none⟩).isSome = true) (hf : ∀ j, j < n * z.cells.size → w.frozen? ⟨b, o + j, none⟩ = false) :
    ∃ vs : List Value, vs.length = n * z.cells.size ∧ (Builtin.clear_ #[t] ty #[.slice (some ⟨b, o, none⟩) n c]).run P w = .ok (.tuple #[]) (w.setCells b o vs) := by
  refine ⟨(Builtin.zeroCells z.cells n).toList, by simp [Builtin.zeroCells], ?_⟩
  have hlen : (Builtin.zeroCells z.cells n).toList.length = n * z.cells.size := by simp [Builtin.zeroCells]
  have hst := Go.run_storeCells_cells (P := P) b o (Builtin.zeroCells z.cells n).toList 0 w (by rw [hlen]; simpa using hc) (by rw [hlen]; simpa using hf) (by
    intro v hv'
    simp only [Builtin.zeroCells, Array.toList_map, List.mem_map] at hv'
    obtain ⟨i, _, rfl⟩ := hv'
    have hi : i % z.cells.size < z.cells.size := Nat.mod_lt _ hz
    rw [getElem!_pos z.cells _ hi]
    exact h1 _ (Array.getElem_mem hi))
  simp only [Nat.add_zero] at hst
  obtain ⟨m, rfl⟩ : ∃ m, n = m + 1 := ⟨n - 1, by omega⟩
  simp [Builtin.clear_, run_underlying ht, hv, hst]
theorem zero_timed (w : World) : (zeroValue 53).run Tryz.prog w = .ok (.agg #[.int .i64 0, .int .i64 0, .int .i64 0, .int .i64 0]) w := by kernel_rfl
/-- rows lo .. hi - 1 of a block's cells hold f's steps -/
def RowF (cs : Array Value) (f : Nat → Option StM) (lo hi : Nat) : Prop := ∀ j, lo ≤ j → j < hi → ∃ x, f j = some x ∧ cs[j * 4]? = some (.int .i64 x.1) ∧ cs[j * 4 + 1]? = some (.int .i64 x.2.1) ∧ cs[j * 4 + 2]? = some (.int .i64 x.2.2.1) ∧ cs[j * 4 + 3]? = some (.int .i64 x.2.2.2)
/-- a step stored in row k -/
def setRow4 (cs : Array Value) (k : Nat) (x : StM) : Array Value := (((cs.setIfInBounds (k * 4) (.int .i64 x.1)).setIfInBounds (k * 4 + 1) (.int .i64 x.2.1)).setIfInBounds (k * 4 + 2) (.int .i64 x.2.2.1)).setIfInBounds (k * 4 + 3) (.int .i64 x.2.2.2)
theorem setRow4_size (cs : Array Value) (k : Nat) (x : StM) : (setRow4 cs k x).size = cs.size := by simp [setRow4]
theorem setRow4_same {cs : Array Value} {k : Nat} {x : StM} (h : k * 4 + 3 < cs.size) : (setRow4 cs k x)[k * 4]? = some (.int .i64 x.1) ∧ (setRow4 cs k x)[k * 4 + 1]? = some (.int .i64 x.2.1) ∧ (setRow4 cs k x)[k * 4 + 2]? = some (.int .i64 x.2.2.1) ∧ (setRow4 cs k x)[k * 4 + 3]? = some (.int .i64 x.2.2.2) := by
  unfold setRow4
  refine ⟨?_, ?_, ?_, ?_⟩ <;> simp [Array.getElem?_setIfInBounds] <;> omega
theorem setRow4_other {cs : Array Value} {k j : Nat} {x : StM} (h : j < k * 4 ∨ k * 4 + 4 ≤ j) : (setRow4 cs k x)[j]? = cs[j]? := by
  unfold setRow4
  simp only [Array.getElem?_setIfInBounds]
  rw [if_neg (by omega), if_neg (by omega), if_neg (by omega), if_neg (by omega)]
theorem RowF.set_out {cs : Array Value} {f : Nat → Option StM} {lo hi k : Nat} {x : StM} (h : RowF cs f lo hi) (hk : k < lo ∨ hi ≤ k) : RowF (setRow4 cs k x) f lo hi := fun j h1 h2 => by
  obtain ⟨y, e, c0, c1, c2, c3⟩ := h j h1 h2
  exact ⟨y, e, (setRow4_other (by omega)).trans c0, (setRow4_other (by omega)).trans c1, (setRow4_other (by omega)).trans c2, (setRow4_other (by omega)).trans c3⟩
theorem RowF.push {cs : Array Value} {l : List StM} {x : StM} (h : RowF cs (fun j => l[j]?) 0 l.length) (hk : l.length * 4 + 3 < cs.size) : RowF (setRow4 cs l.length x) (fun j => (l ++ [x])[j]?) 0 (l ++ [x]).length := fun j h1 h2 => by
  rw [List.length_append, List.length_singleton] at h2
  by_cases hj : j < l.length
  · obtain ⟨y, e, r⟩ := (h.set_out (k := l.length) (x := x) (.inr (Nat.le_refl _))) j h1 hj
    exact ⟨y, by show (l ++ [x])[j]? = some y; rw [List.getElem?_append_left hj]; exact e, r⟩
  · obtain rfl : j = l.length := by omega
    exact ⟨x, by simp, setRow4_same hk⟩
theorem RowF.at_ {w : World} {g : Nat} {T : TypeId} {cs : Array Value} {s : List StM} {lo : Nat} (h : RowF cs (fun j => s[j]?) lo s.length) (hB : Blk w g T cs) {j : Nat} (h1 : lo ≤ j) (hj : j < s.length) :
    w.cell? ⟨g, j * 4, none⟩ = some (.int .i64 s[j].1) ∧ w.cell? ⟨g, j * 4 + 1, none⟩ = some (.int .i64 s[j].2.1) ∧ w.cell? ⟨g, j * 4 + 2, none⟩ = some (.int .i64 s[j].2.2.1) ∧ w.cell? ⟨g, j * 4 + 3, none⟩ = some (.int .i64 s[j].2.2.2) := by
  obtain ⟨x, e, c0, c1, c2, c3⟩ := h j h1 hj
  have ex : s[j] = x := by
    have : s[j]? = some x := e
    rw [List.getElem?_eq_getElem hj] at this
    exact Option.some.inj this
  rw [ex]
  exact ⟨(Blk.cell hB _).trans c0, (Blk.cell hB _).trans c1, (Blk.cell hB _).trans c2, (Blk.cell hB _).trans c3⟩
theorem RowF.at2 {w : World} {g : Nat} {T : TypeId} {cs : Array Value} {s : List StM} {lo : Nat} (h : RowF cs (fun j => s[j]?) lo s.length) (hB : Blk w g T cs) {j i m : Nat} (h1 : lo ≤ j) (hj : j < s.length) (e : i + m = j) :
    w.cell? ⟨g, i * 4 + m * 4, none⟩ = some (.int .i64 s[j].1) ∧ w.cell? ⟨g, i * 4 + m * 4 + 1, none⟩ = some (.int .i64 s[j].2.1) ∧ w.cell? ⟨g, i * 4 + m * 4 + 2, none⟩ = some (.int .i64 s[j].2.2.1) ∧ w.cell? ⟨g, i * 4 + m * 4 + 3, none⟩ = some (.int .i64 s[j].2.2.2) := by
  rw [← Nat.add_mul, e]
  exact h.at_ hB h1 hj
theorem wrap_sub1 {k : Nat} (h : k ≤ 1000000000) : IntKind.i64.wrap ((k : Int) + 1 - 1) = (k : Int) := by rw [IntKind.wrap_i64]; omega
/-- no two neighbours below k are the same -/
def NoDup (s : List StM) (k : Nat) : Prop := ∃ L : List StM, L = s.take k ∧ ∀ (h : k - 1 < s.length), 1 ≤ k → compL s = s.take k ++ tailG s[k - 1] (s.drop k)

set_option maxRecDepth 100000 in
set_option maxHeartbeats 4000000 in
theorem compact_steps (g c : Nat) (s : List StM) (cs : Array Value) (w : World) (hl : s.length ≤ 100000) (hlc : s.length ≤ c) (_hc : c ≤ maxLen) (hB : Blk w g 53 cs) (hcs : cs.size = c * 4) (hr : RowF cs (fun j => s[j]?) 0 s.length) :
    Calls Tryz.prog 33 #[.slice (some ⟨g, 0, none⟩) s.length c] w fun e w' => e = .returned (.slice (some ⟨g, 0, none⟩) (compL s).length c) ∧ (∃ cs', Blk w' g 53 cs' ∧ cs'.size = c * 4 ∧ RowF cs' (fun j => (compL s)[j]?) 0 (compL s).length) ∧ But g w.heap.size w w' := by
  by_cases h2 : s.length < 2
  · have hs : compL s = s := by
      match s, h2 with
      | [], _ => rfl
      | [x], _ => rfl
    rw [hs]
    have h2I : (s.length : Int) < 2 := by omega
    clear hs h2
    have HR := hide hr
    clear hr
    go_enter Tryz.func33, Tryz.ntmps33
    go_wp2_with fail
    go_ret
    exact ⟨rfl, ⟨cs, hB, hcs, HR.out⟩, But.refl _ _ _⟩
  · have h2I : ¬ (s.length : Int) < 2 := by omega
    have HR := hide hr
    clear hr
    go_enter Tryz.func33, Tryz.ntmps33
    go_wp2_with fail
    go_loopw [3] (fun i wr => ∃ k : Nat, i = .int .i64 ((k : Int) + 1) ∧ k + 1 ≤ s.length ∧ Hid (NoDup s (k + 1)) ∧ Blk wr g 53 cs ∧ But g w.heap.size w wr) (fun i _ => s.length - (intOf i).toNat)
    case atStart =>
      refine ⟨0, by go_num, by omega, hide ⟨_, rfl, fun h _ => ?_⟩, hB, But.refl _ _ _⟩
      match s, h2 with
      | [], h2 => simp at h2
      | x :: l, _ => show compG x l = _; rw [compG_tail]; rfl
    case round =>
      clear hB
      obtain ⟨k, rfl, hk, hN, hB, hb⟩ := hrel
      by_cases hlt : k + 1 < s.length
      · have hltI : (k : Int) + 1 < (s.length : Int) := by omega
        have hkI : (k : Int) < (s.length : Int) := by omega
        obtain ⟨a0, a1, a2, a3⟩ := HR.out.at_ hB (Nat.zero_le _) hlt
        obtain ⟨b0, b1, b2, b3⟩ := HR.out.at_ hB (Nat.zero_le _) (show k < s.length by omega)
        have hgl := Blk.lt hB
        obtain ⟨x, hx⟩ : ∃ x, x = s[k + 1] := ⟨_, rfl⟩
        obtain ⟨y, hy⟩ : ∃ y, y = s[k] := ⟨_, rfl⟩
        rw [← hx] at a0 a1 a2 a3
        rw [← hy] at b0 b1 b2 b3
        by_cases hxy : x = y
        · have hq := step_eq (a := x) (b := y) (q := true) (by simp [hxy])
          have HXY := hide hxy
          have HX := hide hx
          have HY := hide hy
          clear hx hy hxy
          go_wp2_with fail
          have hwk := wrap_sub1 (k := k) (by omega)
          go_quiet (fail)
          clear hwk
          have hB2 := Blk.drewN hB nq
          have hb2 := But.drewN hb nq
          clear hB hb
          have hkl : (k : Int) + 1 ≤ (s.length : Int) := by omega
          have hlcI : (s.length : Int) ≤ (c : Int) := by omega
          go_wp2_with fail
          go_loopw [3, 5] (fun vk vq wr2 => ∃ (L : List StM) (q : Nat) (cs1 : Array Value), vk = .int .i64 L.length ∧ vq = .int .i64 ((q : Int) + 1) ∧ k + 1 + q + 1 ≤ s.length ∧ L.length ≤ k + 1 + q ∧ Hid (compL s = L ++ tailG (s[k + 1 + q]?.getD default) (s.drop (k + 1 + q + 1))) ∧ Blk wr2 g 53 cs1 ∧ cs1.size = c * 4 ∧ Hid (RowF cs1 (fun j => L[j]?) 0 L.length) ∧ Hid (RowF cs1 (fun j => s[j]?) (k + 1 + q) s.length) ∧ But g w.heap.size w wr2) (fun _ vq _ => s.length - (intOf vq).toNat)
          case atStart =>
            refine ⟨s.take (k + 1), 0, cs, by simp; omega, by go_num, by omega, by simp; omega, hide ?_, hB2, hcs, hide ?_, hide ?_, hb2⟩
            · obtain ⟨_, _, h1⟩ := hN.out
              have h1 := h1 (by omega) (by omega)
              simp only [Nat.add_sub_cancel, Nat.add_zero] at h1 ⊢
              rw [h1, tail_at hlt, if_pos (by rw [← HX.out, ← HY.out]; exact HXY.out), List.getElem?_eq_getElem hlt]
              rfl
            · intro j j1 j2
              obtain ⟨z, e, r⟩ := HR.out j j1 (by simp at j2; omega)
              exact ⟨z, by rw [← e]; show (s.take (k + 1))[j]? = s[j]?; rw [List.getElem?_take_of_lt (by simp at j2; omega)], r⟩
            · exact fun j j1 j2 => HR.out j (Nat.zero_le _) j2
          case round =>
            clear hB2 hb2 HXY HX HY hq a0 a1 a2 a3 b0 b1 b2 b3 hN hlt hltI hkI hgl
            obtain ⟨L, q, cs1, rfl, rfl, hq1, hLp, hI, hB, hsz, h1, h2', hb⟩ := hrel
            by_cases hlt2 : k + 1 + q + 1 < s.length
            · obtain ⟨a0, a1, a2, a3⟩ := h2'.out.at2 hB (i := k + 1) (m := q + 1) (by omega) hlt2 (by omega)
              obtain ⟨b0, b1, b2, b3⟩ := h2'.out.at2 hB (i := k + 1) (m := q) (Nat.le_refl _) (show k + 1 + q < s.length by omega) rfl
              have hgl := Blk.lt hB
              have HI := hI.out
              rw [List.getElem?_eq_getElem (show k + 1 + q < s.length by omega), Option.getD_some, tail_at hlt2] at HI
              have HI := hide HI
              clear hI
              obtain ⟨x, hx⟩ : ∃ x, x = s[k + 1 + q + 1] := ⟨_, rfl⟩
              obtain ⟨y, hy⟩ : ∃ y, y = s[k + 1 + q] := ⟨_, rfl⟩
              rw [← hx] at a0 a1 a2 a3 HI
              rw [← hy] at b0 b1 b2 b3 HI
              have HX := hide (show s[k + 1 + q + 1]? = some x by rw [hx]; exact List.getElem?_eq_getElem hlt2)
              have HX' := hide (show s[k + 1 + q + 1] = x from hx.symm)
              clear hx hy
              have hqI : (q : Int) + 1 < ((s.length - (k + 1) : Nat) : Int) := by omega
              have hqJ : (q : Int) < ((s.length - (k + 1) : Nat) : Int) := by omega
              by_cases hxy : x = y
              · have hq := step_eq (a := x) (b := y) (q := true) (by simp [hxy])
                have HXY := hide hxy
                clear hxy
                go_wp2_with fail
                have hwk := wrap_sub1 (k := q) (by omega)
                go_quiet (fail)
                clear hwk
                go_wp2_with fail
                go_roundw
                case rel =>
                  refine ⟨L, q + 1, cs1, rfl, by go_num, by omega, by omega, hide ?_, Blk.drewN hB _, hsz, h1, hide fun j j1 j2 => h2'.out j (by omega) j2, But.drewN hb _⟩
                  rw [HI.out, if_pos HXY.out, show k + 1 + (q + 1) = k + 1 + q + 1 from rfl, HX.out]
                  rfl
                case measure => simp [intOf]; omega
              · have hq := step_eq (a := x) (b := y) (q := false) (by simp [hxy])
                have HXY := hide hxy
                clear hxy
                go_wp2_with fail
                have hwk := wrap_sub1 (k := q) (by omega)
                go_quiet (fail)
                clear hwk
                have hB3 := Blk.drewN hB nq
                have hb3 := But.drewN hb nq
                have hLc : L.length * 4 + 3 < cs1.size := by omega
                have hLI : (L.length : Int) < (s.length : Int) := by omega
                obtain ⟨a0, a1, a2, a3⟩ := h2'.out.at2 hB3 (i := k + 1) (m := q + 1) (by omega) hlt2 (by omega)
                rw [HX'.out] at a0 a1 a2 a3
                have tgt : ∀ i, i ≤ 3 → ∃ u, (wr.drewN nq).cell? ⟨g, L.length * 4 + i, none⟩ = some u := fun i hi => by
                  rw [Blk.cell hB3]
                  exact ⟨_, Array.getElem?_eq_getElem (by omega)⟩
                obtain ⟨z0, t0⟩ := tgt 0 (by omega)
                obtain ⟨z1, t1⟩ := tgt 1 (by omega)
                obtain ⟨z2, t2⟩ := tgt 2 (by omega)
                obtain ⟨z3, t3⟩ := tgt 3 (by omega)
                have f0 := Blk.frozen hB3 (L.length * 4)
                have f1 := Blk.frozen hB3 (L.length * 4 + 1)
                have f2 := Blk.frozen hB3 (L.length * 4 + 2)
                have f3 := Blk.frozen hB3 (L.length * 4 + 3)
                rw [Nat.add_zero] at t0
                clear tgt hB
                go_wp2_with fail
                go_roundw
                case rel =>
                  refine ⟨L ++ [x], q + 1, setRow4 cs1 L.length x, by simp, by go_num, by omega, by simp; omega, hide ?_, ?_, by rw [setRow4_size]; exact hsz, hide (h1.out.push hLc), hide ?_, ?_⟩
                  · rw [HI.out, if_neg HXY.out, show k + 1 + (q + 1) = k + 1 + q + 1 from rfl, HX.out, List.append_assoc]
                    rfl
                  · exact Blk.set_ (Blk.set_ (Blk.set_ (Blk.set_ hB3 _ _) _ _) _ _) _ _
                  · exact RowF.set_out (fun j j1 j2 => h2'.out j (by omega) j2) (.inl (by omega))
                  · exact hb3.trans ((But.set_ _ _ _).trans ((But.set_ _ _ _).trans ((But.set_ _ _ _).trans (But.set_ _ _ _))))
                case measure => simp [intOf]; omega
            · have hqI : ¬ (q : Int) + 1 < ((s.length - (k + 1) : Nat) : Int) := by omega
              have hs : compL s = L := by
                rw [hI.out, List.drop_eq_nil_of_le (by omega)]
                simp [tailG]
              have HS := hide hs
              clear hs hI
              obtain ⟨vs, hvs, hclr⟩ := run_clear_k (P := Tryz.prog) wr 33 53 0 (.agg #[.int .i64 0, .int .i64 0, .int .i64 0, .int .i64 0]) Tryz.underlying33 zero_timed (by intro v hv; simp [Value.cells] at hv; rw [hv]; rfl) (by decide) g (L.length * 4) (s.length - L.length) (c - L.length) (by omega) (fun j hj => by rw [Blk.cell hB]; rw [Array.getElem?_eq_getElem (by have : (Value.agg #[.int .i64 0, .int .i64 0, .int .i64 0, .int .i64 0]).cells.size = 4 := rfl; rw [this] at hj; omega)]; rfl) (fun j _ => Blk.frozen hB _)
              have HCL := hide hclr
              clear hclr hvs
              have hLI : (L.length : Int) ≤ (s.length : Int) := by omega
              go_wp2_with (rw [HCL.out]; simp only [Result.andThen_ok, Oper.upon_value])
              obtain ⟨cs', k1, k2, k3⟩ := Blk.setCells_ vs (L.length * 4) cs1 wr hB
              go_ret
              rw [HS.out]
              exact ⟨rfl, ⟨cs', k1, by omega, fun j j1 j2 => by
                obtain ⟨z, e, r0, r1, r2, r3⟩ := h1.out j j1 j2
                exact ⟨z, e, (k3 _ (by omega)).trans r0, (k3 _ (by omega)).trans r1, (k3 _ (by omega)).trans r2, (k3 _ (by omega)).trans r3⟩⟩, hb.trans (But.setCells_ _ _ _)⟩
        · have hq := step_eq (a := x) (b := y) (q := false) (by simp [hxy])
          have HXY := hide hxy
          have HX := hide hx
          have HY := hide hy
          clear hx hy hxy
          go_wp2_with fail
          have hwk := wrap_sub1 (k := k) (by omega)
          go_quiet (fail)
          clear hwk
          go_wp2_with fail
          go_roundw
          case rel =>
            refine ⟨k + 1, by go_num, by omega, hide ⟨_, rfl, fun h _ => ?_⟩, by first | exact hB | exact Blk.drewN hB _, by first | exact hb | exact But.drewN hb _⟩
            obtain ⟨_, _, h1⟩ := hN.out
            have h1 := h1 (by omega) (by omega)
            simp only [Nat.add_sub_cancel] at h1 h ⊢
            rw [h1, tail_at hlt, if_neg (by rw [← HX.out, ← HY.out]; exact HXY.out), List.take_succ_eq_append_getElem hlt, List.append_assoc]
            rfl
          case measure => simp [intOf]; omega
      · have he : s.length = k + 1 := by omega
        have hltI : ¬ (k : Int) + 1 < (s.length : Int) := by omega
        go_wp2_with fail
        go_ret
        have hs : compL s = s := by
          obtain ⟨_, _, h1⟩ := hN.out
          have h1 := h1 (by omega) (by omega)
          rw [List.take_of_length_le (by omega), List.drop_eq_nil_of_le (by omega)] at h1
          rw [h1]; simp [tailG]
        rw [hs]
        exact ⟨by rw [he]; rfl, ⟨cs, hB, hcs, HR.out⟩, hb⟩
end Go.Proofs.YtpggamapmgpjcaaGreatDoor

namespace Go.Proofs.YtpggamapmgpjcaaGreatDoor
open Go Go.RowKit Go.Proofs

section
variable {α : Type} [Inhabited α] (E : El α)
theorem flat_el (l : List α) : (Go.Sort.flatK E.f E.sz l.toArray).toList = elCells E l := by
  have hp := E.pos
  apply List.ext_getElem?
  intro t
  by_cases ht : t < l.length * E.sz
  · have hk : t / E.sz < l.length := Nat.div_lt_of_lt_mul (by rw [Nat.mul_comm]; exact ht)
    have hm : t % E.sz < E.sz := Nat.mod_lt _ hp
    have hjj : t / E.sz * E.sz + t % E.sz = t := by have := Nat.div_add_mod t E.sz; rw [Nat.mul_comm] at this; exact this
    have h2 : t % E.sz < (E.f l[t / E.sz]).length := by rw [E.len]; exact hm
    have h3 := elCells_at E l (t / E.sz) hk (t % E.sz) _ (List.getElem?_eq_getElem h2)
    rw [hjj] at h3
    have ht2 : t < (Go.Sort.flatK E.f E.sz l.toArray).size := by rw [Go.Sort.size_flatK]; simpa using ht
    rw [h3, Array.getElem?_toList, Array.getElem?_eq_getElem ht2]
    have h4 := Go.Sort.get_flatK E.f E.sz l.toArray t (by simpa using ht)
    rw [getElem!_pos _ t ht2] at h4
    rw [h4]
    have h5 : l.toArray[t / E.sz]! = l[t / E.sz] := by rw [getElem!_pos l.toArray (t / E.sz) (by simpa using hk)]; simp
    rw [h5, getElem!_pos (E.f l[t / E.sz]) (t % E.sz) h2]
  · have e1 : (Go.Sort.flatK E.f E.sz l.toArray).toList.length ≤ t := by rw [Array.length_toList, Go.Sort.size_flatK]; simpa using Nat.le_of_not_lt ht
    have e2 : (elCells E l).length ≤ t := by rw [elCells_len]; exact Nat.le_of_not_lt ht
    rw [List.getElem?_eq_none e1, List.getElem?_eq_none e2]
theorem heap_put {w : World} {g n : Nat} {os : Array Obj} {cur : Array Value} {e : TypeId} {fr : Nat × Nat} (F : Array Value) (hb : w.heap[g]? = some (.cells cur e fr)) :
    (Go.Sort.grow (Go.Sort.putRow id (Go.Sort.ahead w n) g 0 F) os).heap[g]? = some (.cells (Go.Sort.putCells id 0 F cur) e fr) := by
  have hg : g < w.heap.size := (Array.getElem?_eq_some_iff.1 hb).1
  rw [Go.Sort.heap_grow_old _ _ (by simpa using hg)]
  simp [Go.Sort.putRow, Go.Sort.mapBlock, Go.Sort.ahead, Array.getElem?_modify, hb, Go.Sort.onCells]
theorem grownBy_put {w : World} {g n : Nat} {os : Array Obj} (F : Array Value) : w.grownBy (Go.Sort.grow (Go.Sort.putRow id (Go.Sort.ahead w n) g 0 F) os) (some g) := by
  refine ⟨rfl, rfl, rfl, by simp, fun k hk hne => ?_⟩
  rw [Go.Sort.heap_grow_old _ _ (by simpa using hk)]
  have : g ≠ k := fun e => hne (by rw [e])
  simp [Go.Sort.putRow, Go.Sort.mapBlock, Go.Sort.ahead, Array.getElem?_modify, this]
theorem take_put (cur : Array Value) (F : Array Value) (h : F.size ≤ cur.size) : (Go.Sort.putCells id 0 F cur).toList.take F.size = F.toList := by
  apply List.ext_getElem?
  intro j
  by_cases hj : j < F.size
  · rw [List.getElem?_take_of_lt hj, Array.getElem?_toList, Array.getElem?_toList]
    simp [Go.Sort.putCells, hj, show j < cur.size by omega]
  · rw [List.getElem?_take_eq_none (by omega), List.getElem?_eq_none (by simp; omega)]
variable {E} {B g cap : Nat} {w : World} {l : List α}
/-- the row's cells hold the list -/
theorem OwnE_.holds (h : OwnE_ E B w (.slice (some ⟨g, 0, none⟩) l.length cap) l) : Go.Sort.HoldsK E.f E.sz w g 0 l.toArray := by
  rcases h.2 with ⟨e, _⟩ | ⟨g2, cap2, cur, e, _, hb, _, _, _, ht⟩
  · cases e
  · cases e
    intro j hj
    have hj' : j < l.length * E.sz := by simpa using hj
    refine ⟨?_, by simp [World.frozen?, hb]⟩
    have h1 : (cur.toList.take (l.length * E.sz))[j]? = (elCells E l)[j]? := by rw [ht]
    rw [List.getElem?_take_of_lt hj', ← flat_el E l, Array.getElem?_toList, Array.getElem?_toList, Array.getElem?_eq_getElem hj] at h1
    simp only [World.cell?, hb, Nat.zero_add, Option.isSome_none, Bool.false_eq_true, if_false]
    rw [h1, getElem!_pos _ j hj]
    rfl
/-- behind the sort the same slice owns the sorted list -/
theorem OwnE_.sorted (h : OwnE_ E B w (.slice (some ⟨g, 0, none⟩) l.length cap) l) (l2 : List α) (hl : l2.length = l.length) (n : Nat) (os : Array Obj) :
    OwnE_ E B (sortWorldK E.f E.sz w g 0 n l2.toArray os) (.slice (some ⟨g, 0, none⟩) l.length cap) l2 ∧ w.grownBy (sortWorldK E.f E.sz w g 0 n l2.toArray os) (some g) := by
  refine ⟨?_, grownBy_put _⟩
  rcases h.2 with ⟨e, _⟩ | ⟨g2, cap2, cur, e, hB, hb, h1, h2, h3, ht⟩
  · cases e
  · cases e
    have hsz : (Go.Sort.flatK E.f E.sz l2.toArray).size = l2.length * E.sz := by simp
    have hle : l2.length * E.sz ≤ cap * E.sz := Nat.mul_le_mul_right _ (by omega)
    refine ⟨by rw [elCells_len], .inr ⟨g, cap, _, by rw [hl], hB, heap_put _ hb, by omega, h2, by simp [Go.Sort.putCells, h3], ?_⟩⟩
    have := take_put cur (Go.Sort.flatK E.f E.sz l2.toArray) (by rw [hsz, h3]; exact hle)
    rw [hsz, flat_el] at this
    exact this
end
end Go.Proofs.YtpggamapmgpjcaaGreatDoor
