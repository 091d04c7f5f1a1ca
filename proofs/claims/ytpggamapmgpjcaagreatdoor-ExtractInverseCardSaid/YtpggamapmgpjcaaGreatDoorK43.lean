/- The walks of exodusref23.Compare and exodusref24.Before. Conditions: none. The walk of exodusref24.Before. Conditions: none. Plain: where a step is put in a list of steps in order. Conditions: none. -/
import Derived.Test.YtpggamapmgpjcaaGreatDoorK35
import Derived.Test.YtpggamapmgpjcaaGreatDoorK29
import Derived.Deep.QuietTactic
import Derived.BigQuiet
import Derived.Test.YtpggamapmgpjcaaGreatDoorK31

namespace Go.Proofs.YtpggamapmgpjcaaGreatDoor
open Go Go.RowKit Go.Proofs

theorem orL_drop {l k : List Int} {i : Nat} (h1 : i < l.length) (h2 : i < k.length) : orL ((List.zipWith Lib.compareInt l k).drop i) = if l[i] < k[i] then -1 else if l[i] > k[i] then 1 else orL ((List.zipWith Lib.compareInt l k).drop (i + 1)) := by
  rw [List.drop_eq_getElem_cons (by simp; omega), orL_cons, List.getElem_zipWith]
  unfold Lib.compareInt
  split <;> split <;> simp_all <;> omega
theorem two_rows (W : World) (l k : List Int) {b1 b2 : Nat} (h1 : b1 = W.heap.size) (h2 : b2 = W.heap.size + 1) : Ints ((W.alloc (.cells (l.map (Value.int .i64)).toArray 3)).alloc (.cells (k.map (Value.int .i64)).toArray 3)).drew ((W.alloc (.cells (l.map (Value.int .i64)).toArray 3)).alloc (.cells (k.map (Value.int .i64)).toArray 3)).drew.heap.size (some ⟨b1, 0, none⟩) l ∧
    Ints ((W.alloc (.cells (l.map (Value.int .i64)).toArray 3)).alloc (.cells (k.map (Value.int .i64)).toArray 3)).drew ((W.alloc (.cells (l.map (Value.int .i64)).toArray 3)).alloc (.cells (k.map (Value.int .i64)).toArray 3)).drew.heap.size (some ⟨b2, 0, none⟩) k ∧ Below W.heap.size W ((W.alloc (.cells (l.map (Value.int .i64)).toArray 3)).alloc (.cells (k.map (Value.int .i64)).toArray 3)).drew := by
  have hb : Below W.heap.size W ((W.alloc (.cells (l.map (Value.int .i64)).toArray 3)).alloc (.cells (k.map (Value.int .i64)).toArray 3)).drew := (((Below.refl _ W).alloc (Nat.le_refl _) _).alloc (by simp) _).drew
  refine ⟨?_, ?_, hb⟩
  · have h := ints_lit W l h1
    have h3 : Below (W.heap.size + 1) (W.alloc (.cells (l.map (Value.int .i64)).toArray 3)) ((W.alloc (.cells (l.map (Value.int .i64)).toArray 3)).alloc (.cells (k.map (Value.int .i64)).toArray 3)).drew := ((Below.refl _ _).alloc (by simp) _).drew
    exact (h.below h3).more (by simp [World.drew])
  · have h := ints_lit (W.alloc (.cells (l.map (Value.int .i64)).toArray 3)) k (b := b2) (by rw [World.size_alloc]; exact h2)
    exact Ints.more (Reads.drew h) (by simp [World.drew])
theorem cmp3_zip (a b : MvM) : cmp3 a b = orL (List.zipWith Lib.compareInt [a.1, a.2.1, a.2.2] [b.1, b.2.1, b.2.2]) := rfl
set_option maxRecDepth 100000 in
set_option maxHeartbeats 4000000 in
theorem rcmp_ref (a b : MvM) (w : World) :
    Calls Tryz.prog 63 #[.agg #[.int .i64 a.1, .int .i64 a.2.1, .int .i64 a.2.2], .agg #[.int .i64 b.1, .int .i64 b.2.1, .int .i64 b.2.2]] w fun e w' => e = .returned (.int .i64 (cmp3 a b)) ∧ Below w.heap.size w w' := by
  have HS := hide (Cb.start 51 w #[.int .i64 a.1, .int .i64 a.2.1, .int .i64 a.2.2] #[.int .i64 b.1, .int .i64 b.2.1, .int .i64 b.2.2])
  obtain ⟨la, hla⟩ : ∃ l, l = [a.1, a.2.1, a.2.2] := ⟨_, rfl⟩
  obtain ⟨lb, hlb⟩ : ∃ l, l = [b.1, b.2.1, b.2.2] := ⟨_, rfl⟩
  have HV := hide (cmp3_zip a b)
  rw [← hla, ← hlb] at HV
  have HLA := hide hla
  have HLB := hide hlb
  have na : la.length = 3 := by rw [hla]; rfl
  have nb : lb.length = 3 := by rw [hlb]; rfl
  have HNA := hide na
  have HNB := hide nb
  clear hla hlb na nb
  have HT1 := hide (two_rows ((w.alloc (.cells #[.int .i64 a.1, .int .i64 a.2.1, .int .i64 a.2.2] 51)).alloc (.cells #[.int .i64 b.1, .int .i64 b.2.1, .int .i64 b.2.2] 51)) [a.1, a.2.1, a.2.2] [b.1, b.2.1, b.2.2] (b1 := w.heap.size + 1 + 1) (b2 := w.heap.size + 1 + 1 + 1) (by simp) (by simp))
  have HT2 := hide (two_rows ((w.alloc (.cells #[.int .i64 a.1, .int .i64 a.2.1, .int .i64 a.2.2] 51)).alloc (.cells #[.int .i64 b.1, .int .i64 b.2.1, .int .i64 b.2.2] 51)) [b.1, b.2.1, b.2.2] [a.1, a.2.1, a.2.2] (b1 := w.heap.size + 1 + 1) (b2 := w.heap.size + 1 + 1 + 1) (by simp) (by simp))
  go_enter Tryz.func63, Tryz.ntmps63
  go_upto_region 2 with (fail)
  go_cut [5, 6] from 8 to 21 (fun v5 v6 wx => ∃ A1 A2, v5 = .slice A1 3 3 ∧ v6 = .slice A2 3 3 ∧ Ints wx wx.heap.size A1 la ∧ Ints wx wx.heap.size A2 lb ∧ Below w.heap.size w wx)
  case first =>
    go_region_held3 (fun W => ((W.cell? ⟨w.heap.size, 0, none⟩ = some (.int .i64 a.1) ∧ W.cell? ⟨w.heap.size, 1, none⟩ = some (.int .i64 a.2.1) ∧ W.cell? ⟨w.heap.size, 2, none⟩ = some (.int .i64 a.2.2)) ∧ W.cell? ⟨w.heap.size + 1, 0, none⟩ = some (.int .i64 b.1) ∧ W.cell? ⟨w.heap.size + 1, 1, none⟩ = some (.int .i64 b.2.1) ∧ W.cell? ⟨w.heap.size + 1, 2, none⟩ = some (.int .i64 b.2.2)) ∧ Cb 51 w #[.int .i64 a.1, .int .i64 a.2.1, .int .i64 a.2.2] #[.int .i64 b.1, .int .i64 b.2.1, .int .i64 b.2.2] W)
      ((with_reducible (first | (go_keep; done) | exact ⟨Cb.cells3 HS.out.drew, HS.out.drew⟩ | exact ⟨Cb.cells3 HS.out.alloc.drew, HS.out.alloc.drew⟩ | exact ⟨Cb.cells3 HS.out.alloc.alloc.drew, HS.out.alloc.alloc.drew⟩)))
      (fail)
    all_goals
      go_wp2_with fail
      go_meet
      rw [HLA.out, HLB.out]
      first
        | exact ⟨_, _, rfl, rfl, HT1.out.1, HT1.out.2.1, HS.out.alloc.alloc.drew.g.below⟩
        | exact ⟨_, _, rfl, rfl, HT2.out.2.1, HT2.out.1, HS.out.alloc.alloc.drew.g.below⟩
  case rest =>
    clear HS HT1 HT2
    rename World => wx
    obtain ⟨A1, A2, rfl, rfl, i1, i2, hb⟩ := hcut
    have I1 := hide i1
    have I2 := hide i2
    have HB := hide hb
    clear i1 i2 hb
    go_wp2_with fail
    go_loopw [7] (fun i wr => ∃ k : Nat, k ≤ 3 ∧ i = .int .i64 k ∧ Hid (orL ((List.zipWith Lib.compareInt la lb).drop k) = cmp3 a b) ∧ Below wx.heap.size wx wr) (fun i _ => 3 - (intOf i).toNat)
    case atStart => exact ⟨0, by omega, rfl, hide (by rw [HV.out]; rfl), Below.refl _ _⟩
    case round =>
      obtain ⟨k, hk, rfl, hO, hbr⟩ := hrel
      by_cases hlt : k < 3
      · have na := HNA.out
        have nb := HNB.out
        obtain ⟨b1, o1, hA, hbl, a0⟩ := int_at (I1.out.below hbr) (k := k) (by omega)
        obtain ⟨b2, o2, hA2, hbl2, b0⟩ := int_at (I2.out.below hbr) (k := k) (by omega)
        have ho := hO.out
        rw [orL_drop (i := k) (by omega) (by omega)] at ho
        subst hA hA2
        obtain ⟨x, hx⟩ : ∃ x, x = la[k] := ⟨_, rfl⟩
        obtain ⟨y, hy⟩ : ∃ y, y = lb[k] := ⟨_, rfl⟩
        rw [← hx] at a0 ho
        rw [← hy] at b0 ho
        clear hx hy na nb hO
        have hbl := Nat.lt_of_lt_of_le hbl hbr.size
        have hbl2 := Nat.lt_of_lt_of_le hbl2 hbr.size
        have hltI : (k : Int) < 3 := by omega
        have HBR := hide hbr
        clear hbr
        by_cases c1 : x < y
        · rw [if_pos c1] at ho
          have HO := hide ho
          clear ho
          go_wp2_with fail
          go_quiet (fail)
          go_wp2_with fail
          go_ret
          exact ⟨ret_congr (by rw [← HO.out]; rfl), by first | exact below_drawn (HB.out.trans (HBR.out.mono HB.out.size)) _ | exact HB.out.trans (HBR.out.mono HB.out.size)⟩
        · by_cases c2 : x > y
          · rw [if_neg c1, if_pos c2] at ho
            have HO := hide ho
            clear ho
            have c2' : y < x := c2
            go_wp2_with fail
            go_quiet (fail)
            go_wp2_with fail
            go_quiet (fail)
            go_wp2_with fail
            go_ret
            exact ⟨ret_congr (by rw [← HO.out]; rfl), below_drawn (below_drawn (HB.out.trans (HBR.out.mono HB.out.size)) _) _⟩
          · rw [if_neg c1, if_neg c2] at ho
            have HO := hide ho
            clear ho
            have c2' : ¬ y < x := c2
            go_wp2_with fail
            go_quiet (fail)
            go_wp2_with fail
            go_quiet (fail)
            go_wp2_with fail
            go_roundw
            case rel => exact ⟨k + 1, by omega, by go_num, HO, by first | exact below_drawn HBR.out _ | exact below_drawn (below_drawn HBR.out _) _⟩
            case measure => simp [intOf]; omega
      · obtain rfl : k = 3 := by omega
        have HBR := hide hbr
        clear hbr
        go_wp2_with fail
        go_ret
        have ho := hO.out
        rw [List.drop_eq_nil_of_le (by rw [List.length_zipWith]; have := HNA.out; omega)] at ho
        exact ⟨ret_congr (by rw [← ho]; rfl), HB.out.trans (HBR.out.mono HB.out.size)⟩
end Go.Proofs.YtpggamapmgpjcaaGreatDoor

namespace Go.Proofs.YtpggamapmgpjcaaGreatDoor
open Go Go.RowKit Go.Proofs

/-- two boxes, and what has grown since -/
structure Bb (T : TypeId) (w : World) (X Y : Array Value) (W : World) : Prop where
  x : Blk W w.heap.size T X
  y : Blk W (w.heap.size + 1) T Y
  b : Below w.heap.size w W
theorem Bb.start (T : TypeId) (w : World) (X Y : Array Value) : Bb T w X Y ((w.alloc (.cells X T)).alloc (.cells Y T)) :=
  ⟨(Blk.new w _ X).alloc _, by simpa using Blk.new (w.alloc (.cells X T)) T Y, ((Below.refl _ w).alloc (Nat.le_refl _) _).alloc (by simp) _⟩
theorem Bb.grow {T : TypeId} {w : World} {X Y : Array Value} {W W2 : World} (s : Bb T w X Y W) (hb : Below W.heap.size W W2) : Bb T w X Y W2 := ⟨s.x.below hb s.x.lt, s.y.below hb s.y.lt, s.b.trans (hb.mono s.b.size)⟩
theorem Bb.drew {T : TypeId} {w : World} {X Y : Array Value} {W : World} (s : Bb T w X Y W) : Bb T w X Y W.drew := s.grow (Below.refl _ W).drew
theorem Bb.cells4 {T : TypeId} {w : World} {a b : StM} {W : World} (s : Bb T w #[.int .i64 a.1, .int .i64 a.2.1, .int .i64 a.2.2.1, .int .i64 a.2.2.2] #[.int .i64 b.1, .int .i64 b.2.1, .int .i64 b.2.2.1, .int .i64 b.2.2.2] W) :
    (W.cell? ⟨w.heap.size, 0, none⟩ = some (.int .i64 a.1) ∧ W.cell? ⟨w.heap.size, 1, none⟩ = some (.int .i64 a.2.1) ∧ W.cell? ⟨w.heap.size, 2, none⟩ = some (.int .i64 a.2.2.1) ∧ W.cell? ⟨w.heap.size, 3, none⟩ = some (.int .i64 a.2.2.2)) ∧ W.cell? ⟨w.heap.size + 1, 0, none⟩ = some (.int .i64 b.1) ∧ W.cell? ⟨w.heap.size + 1, 1, none⟩ = some (.int .i64 b.2.1) ∧ W.cell? ⟨w.heap.size + 1, 2, none⟩ = some (.int .i64 b.2.2.1) ∧ W.cell? ⟨w.heap.size + 1, 3, none⟩ = some (.int .i64 b.2.2.2) :=
  ⟨⟨s.x.cell 0, s.x.cell 1, s.x.cell 2, s.x.cell 3⟩, s.y.cell 0, s.y.cell 1, s.y.cell 2, s.y.cell 3⟩
theorem ltS_way (a b : StM) : ltS a b = if a.1 < b.1 then true else if a.1 = b.1 then decide (cmp3 a.2 b.2 < 0) else false := by
  unfold ltS cmpS
  rw [orL_cons, orL_one]
  unfold Lib.compareInt
  split
  · simp
  · split
    · rw [if_neg (by omega), if_neg (by omega)]; simp
    · rw [if_pos (by omega)]; simp; intro _; omega
set_option maxRecDepth 100000 in
set_option maxHeartbeats 4000000 in
theorem before_ref (a b : StM) (w : World) :
    Calls Tryz.prog 40 #[.agg #[.int .i64 a.1, .int .i64 a.2.1, .int .i64 a.2.2.1, .int .i64 a.2.2.2], .agg #[.int .i64 b.1, .int .i64 b.2.1, .int .i64 b.2.2.1, .int .i64 b.2.2.2]] w fun e w' => e = .returned (.bool (ltS a b)) ∧ Below w.heap.size w w' := by
  have HS := hide (Bb.start 53 w #[.int .i64 a.1, .int .i64 a.2.1, .int .i64 a.2.2.1, .int .i64 a.2.2.2] #[.int .i64 b.1, .int .i64 b.2.1, .int .i64 b.2.2.1, .int .i64 b.2.2.2])
  have HV := hide (ltS_way a b)
  have HC := hide (fun W => rcmp_ref a.2 b.2 W)
  by_cases g1 : a.1 < b.1
  · have hv := HV.out
    rw [if_pos g1] at hv
    have HV2 := hide hv
    clear hv HV
    go_enter Tryz.func40, Tryz.ntmps40
    go_wp2_with fail
    go_ret
    exact ⟨by rw [HV2.out]; rfl, HS.out.b⟩
  · by_cases g2 : a.1 = b.1
    · obtain ⟨a1, a2⟩ := a
      obtain ⟨b1, b2⟩ := b
      dsimp only at g1 g2 HS HV HC
      subst g2
      have hv := HV.out
      rw [if_neg g1, if_pos rfl] at hv
      have HV2 := hide hv
      obtain ⟨q, hq⟩ : ∃ q, q = cmp3 a2 b2 := ⟨_, rfl⟩
      rw [← hq] at HV2 HC
      clear hv HV hq
      go_enter Tryz.func40, Tryz.ntmps40
      go_wp2_with (go_at_call 63; refine (HC.out _).mono ?_; rintro e w3 ⟨rfl, hg⟩; have s1 := hide (HS.out.grow hg); clear hg)
      go_ret
      exact ⟨by rw [HV2.out]; rfl, s1.out.b⟩
    · have hv := HV.out
      rw [if_neg g1, if_neg g2] at hv
      have HV2 := hide hv
      have d1 : decide (a.1 < b.1) = false := by simpa using g1
      have d2 : decide (a.1 = b.1) = false := by simpa using g2
      have d3 : (a.1 == b.1) = false := by simpa using g2
      clear hv HV
      go_enter Tryz.func40, Tryz.ntmps40
      go_wp2_with fail
      go_ret
      exact ⟨by rw [HV2.out]; rfl, HS.out.b⟩
end Go.Proofs.YtpggamapmgpjcaaGreatDoor

namespace Go.Proofs.YtpggamapmgpjcaaGreatDoor
open Go Go.RowKit Go.Proofs

/-- how many steps at the head of a list are before x -/
def posS (x : StM) : List StM → Nat
  | [] => 0
  | y :: l => if ltS y x then posS x l + 1 else 0
theorem posS_le (x : StM) : ∀ l : List StM, posS x l ≤ l.length
  | [] => Nat.le_refl _
  | y :: l => by
    have := posS_le x l
    unfold posS
    split <;> simp <;> omega
theorem posS_yes (x : StM) : ∀ (l : List StM) (k : Nat) (hk : k < l.length), k ≤ posS x l → ltS l[k] x = true → k + 1 ≤ posS x l
  | [], k, hk, _, _ => by simp at hk
  | y :: l, 0, _, _, h => by
    unfold posS
    rw [if_pos (by simpa using h)]
    omega
  | y :: l, k + 1, hk, hp, h => by
    unfold posS at hp ⊢
    split
    · rename_i h1
      rw [if_pos h1] at hp
      have := posS_yes x l k (by simpa using hk) (by omega) (by simpa using h)
      omega
    · rename_i h1
      rw [if_neg h1] at hp
      omega
theorem posS_no (x : StM) : ∀ (l : List StM) (k : Nat) (hk : k < l.length), k ≤ posS x l → ltS l[k] x = false → k = posS x l
  | [], k, hk, _, _ => by simp at hk
  | y :: l, 0, _, _, h => by
    have h' : ltS y x = false := by simpa using h
    unfold posS
    rw [h']
    rfl
  | y :: l, k + 1, hk, hp, h => by
    unfold posS at hp ⊢
    split
    · rename_i h1
      rw [if_pos h1] at hp
      have := posS_no x l k (by simpa using hk) (by omega) (by simpa using h)
      omega
    · rename_i h1
      rw [if_neg h1] at hp
      omega
theorem insS_pos (x : StM) : ∀ l : List StM, insS x l = if l[posS x l]? = some x then l else l.take (posS x l) ++ [x] ++ l.drop (posS x l)
  | [] => by simp [insS, posS]
  | y :: l => by
    unfold insS posS
    split
    · rw [insS_pos x l]
      simp only [List.getElem?_cons_succ, List.take_succ_cons, List.drop_succ_cons]
      split <;> simp
    · simp only [List.getElem?_cons_zero, Option.some.injEq, List.take_zero, List.drop_zero]
      split <;> simp
end Go.Proofs.YtpggamapmgpjcaaGreatDoor
