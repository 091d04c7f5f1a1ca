/- The walk of package lexer's word. Conditions: lengths that fit memory; the tables are laid. -/
import Derived.Test.YtanhkeeifnimgaaGreatDoorLex16b
import Derived.Test.YtanhkeeifnimgaaGreatDoorSyn17c
import Derived.Test.YtanhkeeifnimgaaGreatDoorOwn
namespace Go.Proofs.YtanhkeeifnimgaaGreatDoor
open Go Go.RowKit Go.Proofs

def tokV (t : Tok) : Value := .agg #[.int .i64 t.kind, .string t.text, .int .i64 t.n, .int .i64 t.pos]
/-- a token and an error, as a function returns them -/
def TokRet (r : Tok × Int) (w : World) (e : Ending) (w' : World) : Prop := e = .returned (.tuple #[tokV r.1, .int .i64 r.2]) ∧ Below w.heap.size w w'

theorem Cls.form {w : World} {v : Value} {p : UInt8 → Bool} (h : Cls w v p) : ∃ g lb, v = .func (.func g) #[] lb := by
  obtain ⟨g, lb, rfl, _⟩ := h
  exact ⟨g, lb, rfl⟩
theorem cls_congr {w : World} {v : Value} {p q : UInt8 → Bool} (h : Cls w v p) (hq : ∀ c, p c = q c) : Cls w v q := by
  obtain rfl : p = q := funext hq
  exact h
theorem clsL_three {w : World} {v0 v1 v2 : Value} {p0 p1 p2 : UInt8 → Bool} {T : TypeId} (h0 : Cls w v0 p0) (h1 : Cls w v1 p1) (h2 : Cls w v2 p2) :
    ClsL (w.alloc (.cells #[v0, v1, v2] T)) (some ⟨w.heap.size, 0, none⟩) [v0, v1, v2] [p0, p1, p2] := by
  have hB : Below w.heap.size w (w.alloc (.cells #[v0, v1, v2] T)) := (Below.refl _ _).alloc (Nat.le_refl _) _
  refine ⟨(Reads.newRow w #[v0, v1, v2] T 3 1 rfl).more (by simp), rfl, fun i hi _ => ?_⟩
  match i, hi with
  | 0, _ => exact h0.below hB
  | 1, _ => exact h1.below hB
  | 2, _ => exact h2.below hB
theorem nm_any (c : UInt8) : [inB 97 122, inB 48 57, fun c => ((⟨#[95]⟩ : ByteArray) : ByteArray).data.toList.contains c].any (atB c) = nmC c := by
  simp only [List.any_cons, List.any_nil, Bool.or_false, atB, nmC, nameI]
  have : ((⟨#[95]⟩ : ByteArray) : ByteArray).data.toList.contains c = decide ((c.toNat : Int) = 95) := by
    rw [Bool.eq_iff_iff]
    simp
    constructor
    · rintro rfl; rfl
    · intro h; exact UInt8.toNat_inj.1 (by simp; omega)
  rw [this]
  show (letterI c.toNat || (digitI c.toNat || _)) = _
  rw [Bool.or_assoc]

set_option maxRecDepth 100000 in
set_option maxHeartbeats 2000000 in
theorem word_any (s : ByteArray) (w : World) (ha : Asc w) (hs : s.size ≤ 9223372036854775807) :
    Calls Tryz.prog 56 #[.string s] w (TokRet (wordT s) w) := by
  have HA := hide ha
  clear ha
  have hn0 : wordN s ≤ s.size := by
    have := (List.takeWhile_prefix (l := s.data.toList) nmC).length_le
    simpa [wordN] using this
  have HR : ∀ (X : World) (v : Value), Cls X v nmC → Calls Tryz.prog 52 #[.string s, v] X fun e w' => e = .returned (.int .i64 (wordN s)) ∧ Below X.heap.size X w' := fun X v h => run_any s v nmC X hs h
  have HR := hide HR
  have hw : wordT s = if 31 < wordN s then (noTok, 8) else (⟨if hasS keywords (s.extract 0 (wordN s)) then 2 else 1, s.extract 0 (wordN s), 0, 0⟩, 0) := rfl
  have HW := hide hw
  clear hw
  generalize wordN s = n at HW HR hn0
  by_cases h31 : 31 < n
  · have HT := hide (show wordT s = (noTok, 8) by rw [HW.out, if_pos h31])
    clear HW
    have h31' : (31 : Int) < (n : Int) := by omega
    go_enter Tryz.func56, Tryz.ntmps56
    go_wp2_with fail
    refine (from_any 97 122 _).mono ?_
    rintro e x1 ⟨⟨v1, rfl, hv1⟩, hb1⟩
    obtain ⟨g1, lb1, rfl⟩ := hv1.form
    go_wp2_with fail
    refine (from_any 48 57 _).mono ?_
    rintro e x2 ⟨⟨v2, rfl, hv2⟩, hb2⟩
    obtain ⟨g2, lb2, rfl⟩ := hv2.form
    go_wp2_with fail
    refine (among_any (⟨#[95]⟩ : ByteArray) _).mono ?_
    rintro e x3 ⟨⟨v3, rfl, hv3⟩, hb3⟩
    obtain ⟨g3, lb3, rfl⟩ := hv3.form
    have hL := clsL_three (T := 81) ((hv1.below hb2).below hb3) (hv2.below hb3) hv3
    go_wp2_with fail
    refine (anyOf_any _ 3 [.func (.func g1) #[] lb1, .func (.func g2) #[] lb2, .func (.func g3) #[] lb3] _ _ (by simp) hL).mono ?_
    rintro e x4 ⟨⟨v4, rfl, hv4⟩, hb4⟩
    go_wp2_with fail
    refine (HR.out _ v4 (cls_congr hv4 nm_any)).mono ?_
    rintro e x5 ⟨rfl, hb5⟩
    have hB0 : Below w.heap.size w (w.alloc (.cells #[.int .i64 0, .string ⟨#[]⟩, .int .i64 0, .int .i64 0] 34)) := (Below.refl _ _).alloc (Nat.le_refl _) _
    have hB3 := ((hB0.trans (hb1.mono hB0.size)).trans (hb2.mono (Nat.le_trans hB0.size hb1.size))).trans (hb3.mono (Nat.le_trans hB0.size (Nat.le_trans hb1.size hb2.size)))
    have hB3' := hB3.alloc hB3.size (.cells #[.func (.func g1) #[] lb1, .func (.func g2) #[] lb2, .func (.func g3) #[] lb3] 81)
    have hB5 := (hB3'.trans (hb4.mono hB3'.size)).trans (hb5.mono (Nat.le_trans hB3'.size hb4.size))
    have hD3 := (((Blk.new w 34 #[.int .i64 0, .string ⟨#[]⟩, .int .i64 0, .int .i64 0]).below hb1 (by simp)).below hb2 (by have := hb1.size; simp at this; omega)).below hb3 (by have := hb1.size; have := hb2.size; simp at *; omega)
    have hD5 := ((hD3.alloc (.cells #[.func (.func g1) #[] lb1, .func (.func g2) #[] lb2, .func (.func g3) #[] lb3] 81)).below hb4 (by have := hD3.lt; simp; omega)).below hb5 (by have := hD3.lt; have := hb4.size; simp at *; omega)
    have eZ := hD5.lt
    have d0 := hD5.cell 0
    have d1 := hD5.cell 1
    have d2 := hD5.cell 2
    have d3 := hD5.cell 3
    have f0 := hD5.frozen 0
    have f1 := hD5.frozen 1
    have f2 := hD5.frozen 2
    have f3 := hD5.frozen 3
    simp at d0 d1 d2 d3
    clear hb1 hb2 hb3 hb4 hb5 hB0 hB3 hB3' hD3 hv1 hv2 hv3 hv4 hL
    go_wp2_with fail
    exact bodyPost_ret (v := .tuple #[.agg #[.int .i64 0, .string ⟨#[]⟩, .int .i64 0, .int .i64 0], .int .i64 8]) (by simp [results, Tryz.results56, go_sem, *]) rfl ⟨by rw [HT.out]; rfl, by repeat (first | (with_reducible exact hB5) | (with_reducible refine Below.setCell ?_ (by simp) _))⟩
  · have h31' : ¬ (31 : Int) < (n : Int) := by omega
    have hnI : (n : Int) ≤ (s.size : Int) := by omega
    generalize hkw : hasS keywords (s.extract 0 n) = q
    have HW := hide (HW.out.trans (by rw [if_neg h31, hkw]))
    have HK := hide hkw
    clear hkw
    go_enter Tryz.func56, Tryz.ntmps56
    go_wp2_with fail
    refine (from_any 97 122 _).mono ?_
    rintro e x1 ⟨⟨v1, rfl, hv1⟩, hb1⟩
    obtain ⟨g1, lb1, rfl⟩ := hv1.form
    go_wp2_with fail
    refine (from_any 48 57 _).mono ?_
    rintro e x2 ⟨⟨v2, rfl, hv2⟩, hb2⟩
    obtain ⟨g2, lb2, rfl⟩ := hv2.form
    go_wp2_with fail
    refine (among_any (⟨#[95]⟩ : ByteArray) _).mono ?_
    rintro e x3 ⟨⟨v3, rfl, hv3⟩, hb3⟩
    obtain ⟨g3, lb3, rfl⟩ := hv3.form
    have hL := clsL_three (T := 81) ((hv1.below hb2).below hb3) (hv2.below hb3) hv3
    go_wp2_with fail
    refine (anyOf_any _ 3 [.func (.func g1) #[] lb1, .func (.func g2) #[] lb2, .func (.func g3) #[] lb3] _ _ (by simp) hL).mono ?_
    rintro e x4 ⟨⟨v4, rfl, hv4⟩, hb4⟩
    go_wp2_with fail
    refine (HR.out _ v4 (cls_congr hv4 nm_any)).mono ?_
    rintro e x5 ⟨rfl, hb5⟩
    have hB0 : Below w.heap.size w (w.alloc (.cells #[.int .i64 0, .string ⟨#[]⟩, .int .i64 0, .int .i64 0] 34)) := (Below.refl _ _).alloc (Nat.le_refl _) _
    have hB3 := ((hB0.trans (hb1.mono hB0.size)).trans (hb2.mono (Nat.le_trans hB0.size hb1.size))).trans (hb3.mono (Nat.le_trans hB0.size (Nat.le_trans hb1.size hb2.size)))
    have hB3' := hB3.alloc hB3.size (.cells #[.func (.func g1) #[] lb1, .func (.func g2) #[] lb2, .func (.func g3) #[] lb3] 81)
    have hB5 := (hB3'.trans (hb4.mono hB3'.size)).trans (hb5.mono (Nat.le_trans hB3'.size hb4.size))
    have hD3 := (((Blk.new w 34 #[.int .i64 0, .string ⟨#[]⟩, .int .i64 0, .int .i64 0]).below hb1 (by simp)).below hb2 (by have := hb1.size; simp at this; omega)).below hb3 (by have := hb1.size; have := hb2.size; simp at *; omega)
    have hD5 := ((hD3.alloc (.cells #[.func (.func g1) #[] lb1, .func (.func g2) #[] lb2, .func (.func g3) #[] lb3] 81)).below hb4 (by have := hD3.lt; simp; omega)).below hb5 (by have := hD3.lt; have := hb4.size; simp at *; omega)
    have eZ := hD5.lt
    have d0 := hD5.cell 0
    have d1 := hD5.cell 1
    have d2 := hD5.cell 2
    have d3 := hD5.cell 3
    have f0 := hD5.frozen 0
    have f1 := hD5.frozen 1
    have f2 := hD5.frozen 2
    have f3 := hD5.frozen 3
    simp at d0 d1 d2 d3
    clear hb1 hb2 hb3 hb4 hb5 hB0 hB3 hB3' hD3 hv1 hv2 hv3 hv4 hL
    go_wp2_with fail
    have hE : Blk (x5.alloc (.cells #[.int .i64 1, .string (s.extract 0 n), .int .i64 0, .int .i64 0] 34)) x5.heap.size 34 #[.int .i64 1, .string (s.extract 0 n), .int .i64 0, .int .i64 0] := Blk.new _ _ _
    have hDW := hD5.alloc (.cells #[.int .i64 1, .string (s.extract 0 n), .int .i64 0, .int .i64 0] 34)
    have hBW := hB5.alloc hB5.size (.cells #[.int .i64 1, .string (s.extract 0 n), .int .i64 0, .int .i64 0] 34)
    have hne : w.heap.size ≠ x5.heap.size := by omega
    have hgl : w.heap.size ≤ x5.heap.size := by omega
    clear d0 d1 d2 d3 f0 f1 f2 f3 hD5 hB5 eZ
    generalize x5.alloc (.cells #[.int .i64 1, .string (s.extract 0 n), .int .i64 0, .int .i64 0] 34) = W at *
    generalize x5.heap.size = gt at *
    have eZ := hE.lt
    have eC := hE.cell 1
    simp at eC
    go_region_held3 (fun X => X.cell? ⟨gt, 1, none⟩ = some (.string (s.extract 0 n)) ∧ gt < X.heap.size ∧ Below W.heap.size W X) ((first | (go_keep; done) | (refine ⟨?_, ?_, ?_⟩ <;> (first | assumption | exact (Below.refl _ _).drew | exact eC | exact eZ))))
      ((first
        | (go_at_call 91; have hH := (by assumption : _ ∧ gt < _ ∧ Below W.heap.size W _); obtain ⟨a0, aZ, aB⟩ := hH; refine (keywords_prog _ (Asc.below HA.out (Nat.le_refl _) (hBW.trans (aB.mono hBW.size)))).mono ?_; rintro e x6 ⟨rfl, hkw, hb6⟩; have c0 := (hb6.cell (p := ⟨gt, 1, none⟩) aZ).trans a0; have cZ := Nat.lt_of_lt_of_le aZ hb6.size; have cB := aB.trans (hb6.mono aB.size); clear a0 aZ aB hb6)
        | (go_at_call 90; refine (contains_strs _ _ keywords (s.extract 0 n) _ (by decide) hkw).mono ?_; rw [HK.out]; rintro e x7 ⟨rfl, rfl⟩)))
    all_goals
      have hE6 := hE.below cB eZ
      have hD6 := hDW.below cB hDW.lt
      have hB6 := hBW.trans (cB.mono hBW.size)
      clear cB hE hDW hBW
      have e0 := hE6.cell 0
      have e1 := hE6.cell 1
      have e2 := hE6.cell 2
      have e3 := hE6.cell 3
      have k0 := hE6.frozen 0
      have d0 := hD6.cell 0
      have d1 := hD6.cell 1
      have d2 := hD6.cell 2
      have d3 := hD6.cell 3
      have f0 := hD6.frozen 0
      have f1 := hD6.frozen 1
      have f2 := hD6.frozen 2
      have f3 := hD6.frozen 3
      simp at e0 e1 e2 e3 d0 d1 d2 d3
      have hne2 : ¬ gt = w.heap.size := fun h => hne h.symm
      have hgw : w.heap.size ≤ gt := by omega
      have HNE := hide hne
      clear hne
      cases q
      · go_wp2_with fail
        refine bodyPost_ret (v := .tuple #[.agg #[.int .i64 1, .string (s.extract 0 n), .int .i64 0, .int .i64 0], .int .i64 0]) (by simp [results, Tryz.results56, go_sem, *]) rfl ⟨by rw [HW.out]; rfl, ?_⟩
        repeat (first | (with_reducible exact hB6) | (with_reducible refine Below.setCell ?_ (by simp <;> omega) _))
      · go_wp2_with fail
        refine bodyPost_ret (v := .tuple #[.agg #[.int .i64 2, .string (s.extract 0 n), .int .i64 0, .int .i64 0], .int .i64 0]) (by simp [results, Tryz.results56, go_sem, *]) rfl ⟨by rw [HW.out]; rfl, ?_⟩
        repeat (first | (with_reducible exact hB6) | (with_reducible refine Below.setCell ?_ (by simp <;> omega) _))
end Go.Proofs.YtanhkeeifnimgaaGreatDoor
