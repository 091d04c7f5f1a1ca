/- The walks of cmp.Or, moves.Compare and plan.compare: what they make of the world, exactly. Conditions: lengths that fit memory. slices.SortFunc at rows of structs: the shelf's contract, laid. Conditions: none. The walk of slices.SortFunc over steps. Conditions: lengths that fit memory. -/
import Derived.Test.YtpggamapmgpjcaaGreatDoorK31
import Derived.Test.YtpggamapmgpjcaaGreatDoorK34
import Derived.Test.YtpggamapmgpjcaaGreatDoorK03
import Derived.Test.YtpggamapmgpjcaaGreatDoorShelf
import Derived.Lib.AppendIntMem
import Derived.Deep.RegionHeld3
import Derived.Shelf.SlGeneric
import Derived.Shelf.SlSortCmp.WholeK
import Derived.Ground.SlsfProg
import Derived.Test.YtpggamapmgpjcaaGreatDoorProg

namespace Go.Proofs.YtpggamapmgpjcaaGreatDoor
open Go Go.RowKit Go.Proofs

/-- a world that has grown and drawn, no more -/
def Gw (w W : World) : Prop := ∃ q os, W = Go.Sort.grow (w.drewN q) os
theorem Gw.refl (w : World) : Gw w w := ⟨0, #[], by rw [Go.Sort.grow_empty]; rfl⟩
theorem Gw.trans {a b c : World} (h1 : Gw a b) (h2 : Gw b c) : Gw a c := by
  obtain ⟨q, os, rfl⟩ := h1
  obtain ⟨q2, os2, rfl⟩ := h2
  have e : ∀ (w : World) (os : Array Obj) (n : Nat), (Go.Sort.grow w os).drewN n = Go.Sort.grow (w.drewN n) os := fun w os n => by
    induction n with
    | zero => rfl
    | succ n ih => exact congrArg World.drew ih
  have e2 : ∀ (w : World) (m n : Nat), (w.drewN m).drewN n = w.drewN (m + n) := fun w m n => by
    induction n with
    | zero => rfl
    | succ n ih => exact congrArg World.drew ih
  exact ⟨q + q2, os ++ os2, by rw [e, Go.Sort.grow_grow, e2]⟩
theorem Gw.alloc {w W : World} (h : Gw w W) (o : Obj) : Gw w (W.alloc o) := h.trans ⟨0, #[o], by rw [Go.Sort.alloc_eq_grow]; rfl⟩
theorem Gw.drew {w W : World} (h : Gw w W) : Gw w W.drew := h.trans ⟨1, #[], by rw [Go.Sort.grow_empty]; rfl⟩
theorem Gw.below {w W : World} (h : Gw w W) : Below w.heap.size w W := by
  obtain ⟨q, os, rfl⟩ := h
  exact Lib.below_grow _ w (Nat.le_refl _) q os
def GwR (w : World) (v : Value) (e : Ending) (w' : World) : Prop := e = .returned v ∧ Gw w w'
set_option maxRecDepth 100000 in
set_option maxHeartbeats 1000000 in
theorem or_prog (A : Option Addr) (c : Nat) (l : List Int) (w : World) (hl : l.length ≤ 1000) (h : Ints w w.heap.size A l) :
    Calls Tryz.prog 53 #[.slice A l.length c] w fun e w' => e = .returned (.int .i64 (orL l)) ∧ w = w' := by
  have HI := hide h
  clear h
  go_enter Tryz.func53, Tryz.ntmps53
  go_wp2_with fail
  go_loop [8] (fun i => ∃ k : Nat, k ≤ l.length ∧ i = .int .i64 k ∧ Hid (orL (l.drop k) = orL l)) (fun i => l.length - (intOf i).toNat)
  case atStart => exact ⟨0, Nat.zero_le _, rfl, hide rfl⟩
  case round =>
    obtain ⟨k, hk, rfl, hs⟩ := hrel
    by_cases hlt : k < l.length
    · obtain ⟨b, off, hA, hb, hc⟩ := int_at HI.out hlt
      obtain ⟨x, hx⟩ : ∃ x, x = l[k] := ⟨_, rfl⟩
      rw [← hx] at hc
      have hd := hs.out
      rw [List.drop_eq_getElem_cons hlt, ← hx, orL_cons] at hd
      have hltI : (k : Int) < (l.length : Int) := by omega
      subst hA
      by_cases h0 : x = 0
      · rw [if_pos h0] at hd
        have g : (x != 0) = false := by simpa using h0
        have HD := hide hd
        clear hd h0 hx
        go_wp2_with fail
        go_round
        case rel => exact ⟨k + 1, by omega, by go_num, HD⟩
        case measure => simp [intOf]; omega
      · rw [if_neg h0] at hd
        have g : (x != 0) = true := by simpa using h0
        have HD := hide hd
        clear hd h0 hx
        go_wp2_with fail
        go_ret
        exact ⟨ret_congr (by rw [← HD.out]; rfl), rfl⟩
    · obtain rfl : k = l.length := by omega
      have hd := hs.out
      rw [List.drop_length, orL_nil] at hd
      have HD := hide hd
      clear hd
      go_wp2_with fail
      go_ret
      exact ⟨ret_congr (by rw [← HD.out]; rfl), rfl⟩
theorem or_any (A : Option Addr) (c n : Nat) (l : List Int) (w : World) (hn : l.length = n) (hl : n ≤ 1000) (h : Ints w w.heap.size A l) :
    Calls Tryz.prog 53 #[.slice A n c] w fun e w' => e = .returned (.int .i64 (orL l)) ∧ w = w' := by
  subst hn
  exact or_prog A c l w hl h
theorem ints_lit (w : World) (l : List Int) {b : Nat} (hb : b = w.heap.size) : Ints (w.alloc (.cells (l.map (Value.int .i64)).toArray 3)) (w.heap.size + 1) (some ⟨b, 0, none⟩) l := by
  subst hb
  exact ⟨by simp, fun _ => ⟨_, rfl, by simp, fun j u hu => by rw [add_none, Nat.zero_add, cell?_new]; simpa using hu⟩⟩
/-- the two boxes of a comparison -/
structure Cb (T : TypeId) (w : World) (X Y : Array Value) (W : World) : Prop where
  x : Blk W w.heap.size T X
  y : Blk W (w.heap.size + 1) T Y
  g : Gw w W
theorem Cb.start (T : TypeId) (w : World) (X Y : Array Value) : Cb T w X Y ((w.alloc (.cells X T)).alloc (.cells Y T)) :=
  ⟨(Blk.new w _ X).alloc _, by simpa using Blk.new (w.alloc (.cells X T)) T Y, ((Gw.refl w).alloc _).alloc _⟩
theorem Cb.grow {T : TypeId} {w : World} {X Y : Array Value} {W W2 : World} (s : Cb T w X Y W) (hg : Gw W W2) : Cb T w X Y W2 := ⟨s.x.below hg.below s.x.lt, s.y.below hg.below s.y.lt, s.g.trans hg⟩
theorem Cb.drew {T : TypeId} {w : World} {X Y : Array Value} {W : World} (s : Cb T w X Y W) : Cb T w X Y W.drew := s.grow (Gw.refl W).drew
theorem Cb.alloc {T : TypeId} {w : World} {X Y : Array Value} {W : World} (s : Cb T w X Y W) {o : Obj} : Cb T w X Y (W.alloc o) := s.grow ((Gw.refl W).alloc o)
theorem Cb.cells3 {T : TypeId} {w : World} {a b : MvM} {W : World} (s : Cb T w #[.int .i64 a.1, .int .i64 a.2.1, .int .i64 a.2.2] #[.int .i64 b.1, .int .i64 b.2.1, .int .i64 b.2.2] W) :
    (W.cell? ⟨w.heap.size, 0, none⟩ = some (.int .i64 a.1) ∧ W.cell? ⟨w.heap.size, 1, none⟩ = some (.int .i64 a.2.1) ∧ W.cell? ⟨w.heap.size, 2, none⟩ = some (.int .i64 a.2.2)) ∧ W.cell? ⟨w.heap.size + 1, 0, none⟩ = some (.int .i64 b.1) ∧ W.cell? ⟨w.heap.size + 1, 1, none⟩ = some (.int .i64 b.2.1) ∧ W.cell? ⟨w.heap.size + 1, 2, none⟩ = some (.int .i64 b.2.2) :=
  ⟨⟨s.x.cell 0, s.x.cell 1, s.x.cell 2⟩, s.y.cell 0, s.y.cell 1, s.y.cell 2⟩
theorem Cb.cells4 {T : TypeId} {w : World} {a b : StM} {W : World} (s : Cb T w #[.int .i64 a.1, .int .i64 a.2.1, .int .i64 a.2.2.1, .int .i64 a.2.2.2] #[.int .i64 b.1, .int .i64 b.2.1, .int .i64 b.2.2.1, .int .i64 b.2.2.2] W) :
    (W.cell? ⟨w.heap.size, 0, none⟩ = some (.int .i64 a.1) ∧ W.cell? ⟨w.heap.size, 1, none⟩ = some (.int .i64 a.2.1) ∧ W.cell? ⟨w.heap.size, 2, none⟩ = some (.int .i64 a.2.2.1) ∧ W.cell? ⟨w.heap.size, 3, none⟩ = some (.int .i64 a.2.2.2)) ∧ W.cell? ⟨w.heap.size + 1, 0, none⟩ = some (.int .i64 b.1) ∧ W.cell? ⟨w.heap.size + 1, 1, none⟩ = some (.int .i64 b.2.1) ∧ W.cell? ⟨w.heap.size + 1, 2, none⟩ = some (.int .i64 b.2.2.1) ∧ W.cell? ⟨w.heap.size + 1, 3, none⟩ = some (.int .i64 b.2.2.2) :=
  ⟨⟨s.x.cell 0, s.x.cell 1, s.x.cell 2, s.x.cell 3⟩, s.y.cell 0, s.y.cell 1, s.y.cell 2, s.y.cell 3⟩
set_option maxRecDepth 100000 in
set_option maxHeartbeats 4000000 in
theorem compare3_prog (a b : MvM) (w : World) :
    Calls Tryz.prog 55 #[.agg #[.int .i64 a.1, .int .i64 a.2.1, .int .i64 a.2.2], .agg #[.int .i64 b.1, .int .i64 b.2.1, .int .i64 b.2.2]] w (GwR w (.int .i64 (cmp3 a b))) := by
  have HS := hide (Cb.start 51 w #[.int .i64 a.1, .int .i64 a.2.1, .int .i64 a.2.2] #[.int .i64 b.1, .int .i64 b.2.1, .int .i64 b.2.2])
  have H1 := hide (Tryz.cmp_Compare_int a.1 b.1)
  have H2 := hide (Tryz.cmp_Compare_int a.2.1 b.2.1)
  have H3 := hide (Tryz.cmp_Compare_int a.2.2 b.2.2)
  have HV := hide (show cmp3 a b = orL [Lib.compareInt a.1 b.1, Lib.compareInt a.2.1 b.2.1, Lib.compareInt a.2.2 b.2.2] from rfl)
  obtain ⟨c1, hc1⟩ : ∃ c, c = Lib.compareInt a.1 b.1 := ⟨_, rfl⟩
  obtain ⟨c2, hc2⟩ : ∃ c, c = Lib.compareInt a.2.1 b.2.1 := ⟨_, rfl⟩
  obtain ⟨c3, hc3⟩ : ∃ c, c = Lib.compareInt a.2.2 b.2.2 := ⟨_, rfl⟩
  rw [← hc1] at H1 HV
  rw [← hc2] at H2 HV
  rw [← hc3] at H3 HV
  have HO := hide (or_any (some ⟨w.heap.size + 1 + 1, 0, none⟩) 3 3 [c1, c2, c3] (((w.alloc (.cells #[.int .i64 a.1, .int .i64 a.2.1, .int .i64 a.2.2] 51)).alloc (.cells #[.int .i64 b.1, .int .i64 b.2.1, .int .i64 b.2.2] 51)).alloc (.cells #[.int .i64 c1, .int .i64 c2, .int .i64 c3] 3)).drew rfl (by omega) (by
    have := ints_lit ((w.alloc (.cells #[.int .i64 a.1, .int .i64 a.2.1, .int .i64 a.2.2] 51)).alloc (.cells #[.int .i64 b.1, .int .i64 b.2.1, .int .i64 b.2.2] 51)) [c1, c2, c3] (b := w.heap.size + 1 + 1) (by simp)
    exact Reads.more (Reads.drew this) (by simp [World.drew])))
  clear hc1 hc2 hc3
  go_enter Tryz.func55, Tryz.ntmps55
  go_wp2_with fail
  go_region_held3 (fun W => ((W.cell? ⟨w.heap.size, 0, none⟩ = some (.int .i64 a.1) ∧ W.cell? ⟨w.heap.size, 1, none⟩ = some (.int .i64 a.2.1) ∧ W.cell? ⟨w.heap.size, 2, none⟩ = some (.int .i64 a.2.2)) ∧ W.cell? ⟨w.heap.size + 1, 0, none⟩ = some (.int .i64 b.1) ∧ W.cell? ⟨w.heap.size + 1, 1, none⟩ = some (.int .i64 b.2.1) ∧ W.cell? ⟨w.heap.size + 1, 2, none⟩ = some (.int .i64 b.2.2)) ∧ Cb 51 w #[.int .i64 a.1, .int .i64 a.2.1, .int .i64 a.2.2] #[.int .i64 b.1, .int .i64 b.2.1, .int .i64 b.2.2] W)
    ((with_reducible (first | (go_keep; done) | exact ⟨Cb.cells3 HS.out.drew, HS.out.drew⟩ | exact ⟨Cb.cells3 HS.out.alloc.drew, HS.out.alloc.drew⟩)))
    ((first
      | (go_at_call 54; first
          | ((with_reducible refine (H1.out _).mono ?_); rintro e w2 ⟨rfl, rfl⟩)
          | ((with_reducible refine (H2.out _).mono ?_); rintro e w2 ⟨rfl, rfl⟩)
          | ((with_reducible refine (H3.out _).mono ?_); rintro e w2 ⟨rfl, rfl⟩))
      | (go_at_call 53; (with_reducible refine HO.out.mono ?_); rintro e w2 ⟨rfl, rfl⟩)))
  go_wp2_with fail
  go_ret
  exact ⟨ret_congr (by rw [HV.out]; rfl), HS.out.alloc.drew.g⟩
set_option maxRecDepth 100000 in
set_option maxHeartbeats 4000000 in
theorem compare4_prog (a b : StM) (w : World) :
    Calls Tryz.prog 28 #[.agg #[.int .i64 a.1, .int .i64 a.2.1, .int .i64 a.2.2.1, .int .i64 a.2.2.2], .agg #[.int .i64 b.1, .int .i64 b.2.1, .int .i64 b.2.2.1, .int .i64 b.2.2.2]] w (GwR w (.int .i64 (cmpS a b))) := by
  have HS := hide (Cb.start 53 w #[.int .i64 a.1, .int .i64 a.2.1, .int .i64 a.2.2.1, .int .i64 a.2.2.2] #[.int .i64 b.1, .int .i64 b.2.1, .int .i64 b.2.2.1, .int .i64 b.2.2.2])
  have H1 := hide (Tryz.cmp_Compare_int a.1 b.1)
  have H2 := hide (compare3_prog a.2 b.2)
  have HV := hide (show cmpS a b = orL [Lib.compareInt a.1 b.1, cmp3 a.2 b.2] from rfl)
  obtain ⟨c1, hc1⟩ : ∃ c, c = Lib.compareInt a.1 b.1 := ⟨_, rfl⟩
  obtain ⟨c2, hc2⟩ : ∃ c, c = cmp3 a.2 b.2 := ⟨_, rfl⟩
  rw [← hc1] at H1 HV
  rw [← hc2] at H2 HV
  have HO := hide (fun (W : World) => or_any (some ⟨W.heap.size, 0, none⟩) 2 2 [c1, c2] (W.alloc (.cells #[.int .i64 c1, .int .i64 c2] 3)) rfl (by omega) (by have := ints_lit W [c1, c2] rfl; rw [World.size_alloc]; exact this))
  clear hc1 hc2
  go_enter Tryz.func28, Tryz.ntmps28
  go_wp2_with fail
  go_region_held3 (fun W => ((W.cell? ⟨w.heap.size, 0, none⟩ = some (.int .i64 a.1) ∧ W.cell? ⟨w.heap.size, 1, none⟩ = some (.int .i64 a.2.1) ∧ W.cell? ⟨w.heap.size, 2, none⟩ = some (.int .i64 a.2.2.1) ∧ W.cell? ⟨w.heap.size, 3, none⟩ = some (.int .i64 a.2.2.2)) ∧ W.cell? ⟨w.heap.size + 1, 0, none⟩ = some (.int .i64 b.1) ∧ W.cell? ⟨w.heap.size + 1, 1, none⟩ = some (.int .i64 b.2.1) ∧ W.cell? ⟨w.heap.size + 1, 2, none⟩ = some (.int .i64 b.2.2.1) ∧ W.cell? ⟨w.heap.size + 1, 3, none⟩ = some (.int .i64 b.2.2.2)) ∧ Cb 53 w #[.int .i64 a.1, .int .i64 a.2.1, .int .i64 a.2.2.1, .int .i64 a.2.2.2] #[.int .i64 b.1, .int .i64 b.2.1, .int .i64 b.2.2.1, .int .i64 b.2.2.2] W)
    ((with_reducible (first | (go_keep; done) | exact ⟨Cb.cells4 HS.out.drew, HS.out.drew⟩ | exact ⟨Cb.cells4 s1, s1⟩ | exact ⟨Cb.cells4 s1.alloc, s1.alloc⟩)))
    ((first
      | (go_at_call 54; (with_reducible refine (H1.out _).mono ?_); rintro e w2 ⟨rfl, rfl⟩)
      | (go_at_call 55; (with_reducible refine (H2.out _).mono ?_); rintro e w3 ⟨rfl, hg⟩; have s1 := HS.out.drew.grow hg; clear hg)
      | (go_at_call 53; (with_reducible refine (HO.out w3).mono ?_); rintro e w2 ⟨rfl, rfl⟩)))
  go_wp2_with fail
  go_ret
  exact ⟨ret_congr (by rw [HV.out]; rfl), s1.alloc.g⟩
end Go.Proofs.YtpggamapmgpjcaaGreatDoor

namespace Go.Proofs
open Go.Shelf
def Tryz.sortSt_ren : Go.Shelf.Ren := ⟨fun | 6 => 57 | 15 => 102 | 14 => 101 | 28 => 160 | 29 => 161 | 20 => 152 | 21 => 153 | 22 => 154 | 23 => 155 | 24 => 156 | 25 => 157 | 26 => 158 | 27 => 159 | 46 => 177 | 47 => 178 | 48 => 179 | 49 => 180 | 50 => 181 | 57 => 191 | n => n, fun | 22 => 33 | 24 => 53 | 25 => 73 | 3 => 3 | 39 => 159 | 0 => 0 | 53 => 183 | 55 => 185 | 4 => 4 | 46 => 177 | 45 => 176 | 50 => 58 | 5 => 5 | 9 => 9 | 66 => 196 | 70 => 200 | 76 => 208 | 77 => 209 | n => n, fun | n => n⟩
theorem Tryz.sortSt : Go.Proofs.SlLaysF0.n6 Tryz.prog Tryz.sortSt_ren := {
  mixed := by kernel_rfl
  f6 := ⟨Tryz.f57.name, by decide, Tryz.func57.trans (congrArg some (by kernel_rfl))⟩
  f14 := ⟨Tryz.f101.name, by decide, Tryz.func101.trans (congrArg some (by kernel_rfl))⟩
  f15 := Tryz.func102.trans (congrArg some (by kernel_rfl))
  f20 := ⟨Tryz.f152.name, by decide, Tryz.func152.trans (congrArg some (by kernel_rfl))⟩
  f21 := ⟨Tryz.f153.name, by decide, Tryz.func153.trans (congrArg some (by kernel_rfl))⟩
  f22 := ⟨Tryz.f154.name, by decide, Tryz.func154.trans (congrArg some (by kernel_rfl))⟩
  f23 := ⟨Tryz.f155.name, by decide, Tryz.func155.trans (congrArg some (by kernel_rfl))⟩
  f24 := ⟨Tryz.f156.name, by decide, Tryz.func156.trans (congrArg some (by kernel_rfl))⟩
  f25 := ⟨Tryz.f157.name, by decide, Tryz.func157.trans (congrArg some (by kernel_rfl))⟩
  f26 := ⟨Tryz.f158.name, by decide, Tryz.func158.trans (congrArg some (by kernel_rfl))⟩
  f27 := ⟨Tryz.f159.name, by decide, Tryz.func159.trans (congrArg some (by kernel_rfl))⟩
  f28 := Tryz.func160.trans (congrArg some (by kernel_rfl))
  f29 := Tryz.func161.trans (congrArg some (by kernel_rfl))
  f46 := ⟨Tryz.f177.name, by decide, Tryz.func177.trans (congrArg some (by kernel_rfl))⟩
  f47 := Tryz.func178.trans (congrArg some (by kernel_rfl))
  f48 := Tryz.func179.trans (congrArg some (by kernel_rfl))
  f49 := ⟨Tryz.f180.name, by decide, Tryz.func180.trans (congrArg some (by kernel_rfl))⟩
  f50 := ⟨Tryz.f181.name, by decide, Tryz.func181.trans (congrArg some (by kernel_rfl))⟩
  f57 := ⟨Tryz.f191.name, by decide, Tryz.func191.trans (congrArg some (by kernel_rfl))⟩
  t0 := Tryz.underlying0
  a0 := Tryz.isAgg0
  z0 := Tryz.sizeOf0
  v0 := Tryz.zeroValue0
  t3 := Tryz.underlying3
  a3 := Tryz.isAgg3
  z3 := Tryz.sizeOf3
  v3 := Tryz.zeroValue3
  t4 := Tryz.underlying4
  a4 := Tryz.isAgg4
  z4 := Tryz.sizeOf4
  v4 := Tryz.zeroValue4
  t5 := Tryz.underlying5
  a5 := Tryz.isAgg5
  z5 := Tryz.sizeOf5
  v5 := Tryz.zeroValue5
  t9 := Tryz.underlying9
  a9 := Tryz.isAgg9
  z9 := Tryz.sizeOf9
  v9 := Tryz.zeroValue9
  t22 := Tryz.underlying33
  a22 := Tryz.isAgg33
  z22 := Tryz.sizeOf33
  v22 := Tryz.zeroValue33
  t25 := Tryz.underlying73
  a25 := Tryz.isAgg73
  z25 := Tryz.sizeOf73
  v25 := Tryz.zeroValue73
  t39 := Tryz.underlying159
  a39 := Tryz.isAgg159
  z39 := Tryz.sizeOf159
  v39 := Tryz.zeroValue159
  t45 := Tryz.underlying176
  a45 := Tryz.isAgg176
  z45 := Tryz.sizeOf176
  v45 := Tryz.zeroValue176
  t46 := Tryz.underlying177
  a46 := Tryz.isAgg177
  z46 := Tryz.sizeOf177
  v46 := Tryz.zeroValue177
  t50 := Tryz.underlying58
  a50 := Tryz.isAgg58
  z50 := Tryz.sizeOf58
  v50 := Tryz.zeroValue58
  t53 := Tryz.underlying183
  a53 := Tryz.isAgg183
  z53 := Tryz.sizeOf183
  v53 := Tryz.zeroValue183
  t55 := Tryz.underlying185
  a55 := Tryz.isAgg185
  z55 := Tryz.sizeOf185
  v55 := Tryz.zeroValue185
  t66 := Tryz.underlying196
  a66 := Tryz.isAgg196
  z66 := Tryz.sizeOf196
  v66 := Tryz.zeroValue196
  t70 := Tryz.underlying200
  a70 := Tryz.isAgg200
  z70 := Tryz.sizeOf200
  v70 := Tryz.zeroValue200
  t76 := Tryz.underlying208
  a76 := Tryz.isAgg208
  z76 := Tryz.sizeOf208
  v76 := Tryz.zeroValue208
  t77 := Tryz.underlying209
  a77 := Tryz.isAgg209
  z77 := Tryz.sizeOf209
  v77 := Tryz.zeroValue209 }
end Go.Proofs

namespace Go.Proofs.YtpggamapmgpjcaaGreatDoor
open Go Go.RowKit Go.Proofs

theorem perm_of_in {α : Type} [Inhabited α] {d d' : Array α} (h : Go.Sort.PermIn 0 d.size d d') : d'.toList.Perm d.toList := by
  obtain ⟨h1, _, h3⟩ := h
  rw [show d'.extract 0 d.size = d' by rw [← h1]; exact Array.extract_size, show d.extract 0 d.size = d from Array.extract_size] at h3
  exact h3
theorem asd_of_in {d : Array StM} (h : Go.Sort.SortedIn ltS 0 d.size d) : Asd d.toList := by
  rw [Asd, List.pairwise_iff_getElem]
  intro i j hi hj hij
  have hi' : i < d.size := by simpa using hi
  have hj' : j < d.size := by simpa using hj
  have := h i j (Nat.zero_le _) hij hj'
  rw [getElem!_pos d j hj', getElem!_pos d i hi'] at this
  simpa using this
set_option maxRecDepth 100000 in
set_option maxHeartbeats 2000000 in
theorem isort_none (f : Value) (w : World) : Calls Tryz.prog 152 #[.slice none 0 0, .int .i64 0, .int .i64 0, f] w fun e w' => e = .returned (.tuple #[]) ∧ w = w' := by
  go_enter Tryz.func152, Tryz.ntmps152
  go_wp2_with fail
  go_loop [8] (fun i => i = .int .i64 1) (fun _ => 0)
  case atStart => rfl
  case round =>
    subst hrel
    go_wp2_with fail
    go_end0
    exact ⟨rfl, rfl⟩
set_option maxRecDepth 100000 in
set_option maxHeartbeats 4000000 in
theorem pdq_none (f : Value) (w : World) : Calls Tryz.prog 101 #[.slice none 0 0, .int .i64 0, .int .i64 0, .int .i64 0, f] w fun e w' => e = .returned (.tuple #[]) ∧ w = w' := by
  have HI := hide (isort_none f w)
  go_enter Tryz.func101, Tryz.ntmps101
  go_wp2_with fail
  go_loop [1, 2, 3, 10, 11] (fun a b c p q => a = .int .i64 0 ∧ b = .int .i64 0 ∧ c = .int .i64 0 ∧ p = .bool true ∧ q = .bool true) (fun _ _ _ _ _ => 0)
  case atStart => exact ⟨rfl, rfl, rfl, rfl, rfl⟩
  case round =>
    obtain ⟨rfl, rfl, rfl, rfl, rfl⟩ := hrel
    go_wp2_with (go_at_call 152; refine HI.out.mono ?_; rintro e w2 ⟨rfl, rfl⟩)
    refine bodyPost_ret (results_none rfl _ _ _) rfl ?_
    exact ⟨rfl, rfl⟩
set_option maxRecDepth 100000 in
set_option maxHeartbeats 2000000 in
theorem sortF_none (f : Value) (w : World) : Calls Tryz.prog 57 #[.slice none 0 0, f] w fun e w' => e = .returned (.tuple #[]) ∧ w = w' := by
  have HP := hide (pdq_none f w)
  have HB := hide (Tryz.bits_Len 0 w (by omega) (by omega))
  rw [show (Lib.bitLen (0 : Int).toNat) = 0 from rfl] at HB
  go_enter Tryz.func57, Tryz.ntmps57
  go_wp2_with (first
    | (go_at_call 102; refine HB.out.mono ?_; rintro e w2 ⟨rfl, rfl⟩)
    | (go_at_call 101; refine HP.out.mono ?_; rintro e w2 ⟨rfl, rfl⟩))
  go_end0
  exact ⟨rfl, rfl⟩
theorem sort_steps (B : Nat) (w : World) (A : Option Addr) (c : Nat) (l : List StM) (h : OwnE_ elSt B w (.slice A l.length c) l) (hl : l.length ≤ 1000000) (hB : B ≤ w.heap.size) :
    Calls Tryz.prog 57 #[.slice A l.length c, .func (.func 28) #[] #[]] w fun e w' => e = .returned (.tuple #[]) ∧ ∃ l2 : List StM, l2.Perm l ∧ Asd l2 ∧ OwnE_ elSt B w' (.slice A l.length c) l2 ∧ Below B w w' := by
  rcases h.2 with ⟨e, h0⟩ | ⟨g, cap, cur, e, hg, _⟩
  · have : l = [] := List.eq_nil_of_length_eq_zero h0
    subst this
    cases e
    exact (sortF_none _ w).mono fun e w' ⟨he, hw⟩ => ⟨he, [], List.Perm.refl _, List.Pairwise.nil, by rw [← hw]; exact OwnE_.nil_ B w, by rw [← hw]; exact Below.refl _ _⟩
  · cases e
    have eg : ∀ args w, (callFunc 28 args).run Tryz.prog w = .ok (.enter 28 args) w := fun _ _ => by kernel_rfl
    have hcmp : CmpLays Tryz.prog 28 #[] elSt.f 4 cmpS g 0 l.toArray.size w := fun m os dk _ x y => (compare4_prog x y _).mono fun e w' ⟨he, q, os', hw⟩ => ⟨he, q, os', hw⟩
    have hcon := AnyQ.slices_SortFunc Tryz.sortSt 4 Tryz.isAgg53 Tryz.sizeOf53 elSt.f (fun _ => rfl) elSt.one cmpS ltS_swo 28 #[] g 0 c l.toArray w eg hcmp h.holds (h.lt g rfl).2 (by simp; omega)
    rw [show l.toArray.size = l.length by simp] at hcon
    refine hcon.mono fun e w' ⟨he, d', n, os, hp, hs, hw⟩ => ?_
    have hsz : d'.size = l.length := hp.1.trans (by simp)
    have hpl : d'.toList.Perm l := by
      have := perm_of_in (d := l.toArray) (d' := d') (by simpa using hp)
      simpa using this
    have hlen : d'.toList.length = l.length := by simpa using hsz
    obtain ⟨ho, hgr⟩ := h.sorted d'.toList hlen n os
    rw [show d'.toList.toArray = d' by simp] at ho hgr
    refine ⟨he, d'.toList, hpl, asd_of_in (d := d') (by rw [hsz]; exact hs), by rw [hw]; exact ho, ?_⟩
    rw [hw]
    exact (Below.refl B w).grown hgr hB (fun k hk => by injection hk with hk; omega)
end Go.Proofs.YtpggamapmgpjcaaGreatDoor
