/- The walk of exoduslaw18's awake: it answers true. Conditions: the table of spaces is laid. -/
import Derived.Test.YtanhkeeifnimgaaDoorPrs18m
import Derived.Test.YtanhkeeifnimgaaDoorRef17f
namespace Go.Proofs.YtanhkeeifnimgaaDoor
open Go Go.RowKit Go.Proofs

def aw1 : Decl := ⟨2, (⟨#[114]⟩ : ByteArray), [(⟨#[97]⟩ : ByteArray), (⟨#[102]⟩ : ByteArray)], [], 0, false⟩
def aw2 : Decl := ⟨11, ⟨#[]⟩, [(⟨#[103]⟩ : ByteArray)], [2], 0, true⟩
theorem aw_p1 : parseT (⟨#[114, 97, 99, 107, 32, 114, 32, 105, 110, 32, 97, 32, 111, 110, 32, 102, 32, 59, 107, 101, 101, 112, 32, 103, 32, 50, 32, 97, 108, 119, 97, 121, 115, 59]⟩ : ByteArray) = ([aw1, aw2], 0, 0) := by kernel_rfl
theorem aw_p2 : parseT (⟨#[115, 105, 116, 101, 32, 97]⟩ : ByteArray) = ([], 6, 3) := by kernel_rfl
theorem aw_p3 : parseD (⟨#[115, 105, 116, 101, 32, 111, 110, 59]⟩ : ByteArray) = (zeroD, 5, 3) := by kernel_rfl
theorem aw_s : sameL [aw1, aw2] [aw1, aw2] = true := by decide +kernel
theorem same_dv (A1 A2 : Option Addr) (c1 c2 : Nat) (L : List DV) (m : List Decl) {n : Nat} (hn : m.length = n) (w : World) (h1 : DRow w w.heap.size A1 L) (h2 : Decls w w.heap.size A2 m) (hl : L.length ≤ 9223372036854775807) (hm : n ≤ 9223372036854775807) :
    Calls Tryd.prog 12 #[.slice A1 L.length c1, .slice A2 n c2] w fun e w' => e = .returned (.bool (sameL (L.map (·.1)) m)) ∧ Below w.heap.size w w' := by
  subst hn
  have := same_ref A1 A2 c1 c2 (L.map (·.1)) m w h1.decls h2 (by simpa using hl) hm
  rwa [List.length_map] at this
theorem fine1 : Fine aw1 := ⟨by decide, by decide, by decide, by decide⟩
theorem fine2 : Fine aw2 := ⟨by decide, by decide, by decide, by decide⟩
theorem aw_row (z : World) : DRow ((((z.alloc (.cells #[.string (⟨#[97]⟩ : ByteArray), .string (⟨#[102]⟩ : ByteArray)] 9)).alloc (.cells #[.string (⟨#[103]⟩ : ByteArray)] 9)).alloc (.cells #[.int .i64 2] 3)).alloc (.cells #[.int .i64 2, .string (⟨#[114]⟩ : ByteArray), .slice (some ⟨z.heap.size, 0, none⟩) 2 2, .slice none 0 0, .int .i64 0, .bool false, .int .i64 11, .string ⟨#[]⟩, .slice (some ⟨z.heap.size + 1, 0, none⟩) 1 1, .slice (some ⟨z.heap.size + 1 + 1, 0, none⟩) 1 1, .int .i64 0, .bool true] 38)) ((((z.alloc (.cells #[.string (⟨#[97]⟩ : ByteArray), .string (⟨#[102]⟩ : ByteArray)] 9)).alloc (.cells #[.string (⟨#[103]⟩ : ByteArray)] 9)).alloc (.cells #[.int .i64 2] 3)).alloc (.cells #[.int .i64 2, .string (⟨#[114]⟩ : ByteArray), .slice (some ⟨z.heap.size, 0, none⟩) 2 2, .slice none 0 0, .int .i64 0, .bool false, .int .i64 11, .string ⟨#[]⟩, .slice (some ⟨z.heap.size + 1, 0, none⟩) 1 1, .slice (some ⟨z.heap.size + 1 + 1, 0, none⟩) 1 1, .int .i64 0, .bool true] 38)).heap.size (some ⟨z.heap.size + 1 + 1 + 1, 0, none⟩)
    [(aw1, .slice (some ⟨z.heap.size, 0, none⟩) 2 2, .slice none 0 0), (aw2, .slice (some ⟨z.heap.size + 1, 0, none⟩) 1 1, .slice (some ⟨z.heap.size + 1 + 1, 0, none⟩) 1 1)] := by
  have r1 := Strs.newRow2 z (b := z.heap.size) 9 [(⟨#[97]⟩ : ByteArray), (⟨#[102]⟩ : ByteArray)] rfl
  have r2 := Strs.newRow2 (z.alloc (.cells #[.string (⟨#[97]⟩ : ByteArray), .string (⟨#[102]⟩ : ByteArray)] 9)) (b := z.heap.size + 1) 9 [(⟨#[103]⟩ : ByteArray)] (by simp)
  have r3 := Ints.newRow2 ((z.alloc (.cells #[.string (⟨#[97]⟩ : ByteArray), .string (⟨#[102]⟩ : ByteArray)] 9)).alloc (.cells #[.string (⟨#[103]⟩ : ByteArray)] 9)) (b := z.heap.size + 1 + 1) 3 [2] (by simp)
  refine ⟨?_, fun x hx => ?_⟩
  · have h := Reads.newRow (((z.alloc (.cells #[.string (⟨#[97]⟩ : ByteArray), .string (⟨#[102]⟩ : ByteArray)] 9)).alloc (.cells #[.string (⟨#[103]⟩ : ByteArray)] 9)).alloc (.cells #[.int .i64 2] 3)) #[.int .i64 2, .string (⟨#[114]⟩ : ByteArray), .slice (some ⟨z.heap.size, 0, none⟩) 2 2, .slice none 0 0, .int .i64 0, .bool false, .int .i64 11, .string ⟨#[]⟩, .slice (some ⟨z.heap.size + 1, 0, none⟩) 1 1, .slice (some ⟨z.heap.size + 1 + 1, 0, none⟩) 1 1, .int .i64 0, .bool true] 38 2 6 rfl
    have h2 := h.more (B' := ((((z.alloc (.cells #[.string (⟨#[97]⟩ : ByteArray), .string (⟨#[102]⟩ : ByteArray)] 9)).alloc (.cells #[.string (⟨#[103]⟩ : ByteArray)] 9)).alloc (.cells #[.int .i64 2] 3)).alloc (.cells #[.int .i64 2, .string (⟨#[114]⟩ : ByteArray), .slice (some ⟨z.heap.size, 0, none⟩) 2 2, .slice none 0 0, .int .i64 0, .bool false, .int .i64 11, .string ⟨#[]⟩, .slice (some ⟨z.heap.size + 1, 0, none⟩) 1 1, .slice (some ⟨z.heap.size + 1 + 1, 0, none⟩) 1 1, .int .i64 0, .bool true] 38)).heap.size) (by simp)
    simpa [cellsD, aw1, aw2] using h2
  · simp only [List.mem_cons, List.not_mem_nil, or_false] at hx
    rcases hx with rfl | rfl
    · exact ⟨_, _, _, _, rfl, rfl, Nat.le_refl _, Nat.le_refl _, (Reads.alloc (Reads.alloc (Reads.alloc r1 (by simp) _) (by simp) _) (by simp) _).more (by simp), Reads.none_, fine1⟩
    · exact ⟨_, _, _, _, rfl, rfl, Nat.le_refl _, Nat.le_refl _, (Reads.alloc (Reads.alloc r2 (by simp) _) (by simp) _).more (by simp), (Reads.alloc r3 (by simp) _).more (by simp), fine2⟩
set_option maxRecDepth 100000 in
set_option maxHeartbeats 300000 in
theorem awake18 (w : World) (ha : Asc w) : Calls Tryd.prog 10 #[] w fun e w' => e = .returned (.bool true) ∧ Below w.heap.size w w' := by
  have h1 := parse_any (⟨#[114, 97, 99, 107, 32, 114, 32, 105, 110, 32, 97, 32, 111, 110, 32, 102, 32, 59, 107, 101, 101, 112, 32, 103, 32, 50, 32, 97, 108, 119, 97, 121, 115, 59]⟩ : ByteArray) w ha (by decide)
  rw [aw_p1] at h1
  have H1 := hide h1
  have h2 := fun (X : World) (hX : Below w.heap.size w X) => parse_any (⟨#[115, 105, 116, 101, 32, 97]⟩ : ByteArray) X (Asc.below ha (Nat.le_refl _) hX) (by decide)
  rw [aw_p2] at h2
  have H2 := hide h2
  have h3 := fun (X : World) (hX : Below w.heap.size w X) => parserDecl_any (⟨#[115, 105, 116, 101, 32, 111, 110, 59]⟩ : ByteArray) X (Asc.below ha (Nat.le_refl _) hX) (by decide)
  rw [aw_p3] at h3
  have H3 := hide h3
  clear h1 h2 h3 ha
  go_enter Tryd.func10, Tryd.ntmps10
  go_wp2_with fail
  refine H1.out.mono ?_
  rintro e1 x1 ⟨A1, c1, L1, rfl, hL1, hc1, hD1, hb1⟩
  go_wp2_with fail
  refine (H2.out x1 hb1).mono ?_
  rintro e2 x2 ⟨A2, c2, L2, rfl, hL2, hc2, hD2, hb2⟩
  have hb12 := hb1.trans (hb2.mono hb1.size)
  go_wp2_with fail
  refine (H3.out x2 hb12).mono ?_
  rintro e3 x3 ⟨ra, rc, na, nc, he3, _, _, _, _, _, hb3⟩
  obtain rfl : e3 = .returned (.tuple #[.agg #[.int .i64 0, .string ⟨#[]⟩, .slice ra 0 rc, .slice na 0 nc, .int .i64 0, .bool false], .int .i64 5, .int .i64 3]) := he3
  have hb123 := hb12.trans (hb3.mono hb12.size)
  have hlen : L1.length = 2 := by have := congrArg List.length hL1; simpa using this
  have hbz : Below x3.heap.size x3 (x3.alloc (.cells #[.int .i64 0, .string ⟨#[]⟩, .slice ra 0 rc, .slice na 0 nc, .int .i64 0, .bool false] 38)) := (Below.refl _ _).alloc (Nat.le_refl _) _
  have hrow := aw_row (x3.alloc (.cells #[.int .i64 0, .string ⟨#[]⟩, .slice ra 0 rc, .slice na 0 nc, .int .i64 0, .bool false] 38))
  generalize hZ : x3.alloc (.cells #[.int .i64 0, .string ⟨#[]⟩, .slice ra 0 rc, .slice na 0 nc, .int .i64 0, .bool false] 38) = Z at hrow hbz
  have hzs : Z.heap.size = x3.heap.size + 1 := by rw [← hZ]; simp
  have hbF : Below Z.heap.size Z ((((Z.alloc (.cells #[.string (⟨#[97]⟩ : ByteArray), .string (⟨#[102]⟩ : ByteArray)] 9)).alloc (.cells #[.string (⟨#[103]⟩ : ByteArray)] 9)).alloc (.cells #[.int .i64 2] 3)).alloc (.cells #[.int .i64 2, .string (⟨#[114]⟩ : ByteArray), .slice (some ⟨Z.heap.size, 0, none⟩) 2 2, .slice none 0 0, .int .i64 0, .bool false, .int .i64 11, .string ⟨#[]⟩, .slice (some ⟨Z.heap.size + 1, 0, none⟩) 1 1, .slice (some ⟨Z.heap.size + 1 + 1, 0, none⟩) 1 1, .int .i64 0, .bool true] 38)) := ((((Below.refl _ _).alloc (Nat.le_refl _) _).alloc (by simp) _).alloc (by simp; omega) _).alloc (by simp; omega) _
  have hb2F := ((hb2.mono (Nat.le_refl _)).trans ((hb3.mono hb2.size).trans ((hbz.mono (Nat.le_trans hb2.size hb3.size)).trans (hbF.mono (Nat.le_trans hb2.size (Nat.le_trans hb3.size hbz.size))))))
  have HSM := hide (same_dv A1 (some ⟨Z.heap.size + 1 + 1 + 1, 0, none⟩) c1 2 L1 [aw1, aw2] (n := 2) rfl _ ((hD1.below hb2F).more hb2F.size) hrow.decls (by omega) (by decide))
  rw [hL1, aw_s] at HSM
  have hbW := hb123.trans ((hbz.mono hb123.size).trans (hbF.mono (Nat.le_trans hb123.size hbz.size)))
  subst hZ
  rw [hzs] at HSM hbW
  have HBW := hide hbW
  clear hbW hrow hbF hb2F hbz hb1 hb2 hb3 hb12 hb123 hD1 hD2 hL1 hL2 hc1 hc2 hlen hzs H1 H2 H3
  go_wp2_with (go_at_call 12; go_loud (refine HSM.out.mono ?_); rintro e4 x4 ⟨rfl, hb4⟩)
  go_ret
  exact ⟨rfl, HBW.out.trans (hb4.mono HBW.out.size)⟩
end Go.Proofs.YtanhkeeifnimgaaDoor
