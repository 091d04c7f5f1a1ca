/- A part of the claim: see its last text. -/
import Derived.Test.YtmjcgcnpeoemdaaGreatDoorUK21
import Derived.Test.YtmjcgcnpeoemdaaGreatDoorUK29
import Derived.Lib.ItoaLen
import Derived.Test.YtmjcgcnpeoemdaaGreatDoorUK12

set_option maxRecDepth 100000
set_option maxHeartbeats 16000000
namespace Go.Proofs.YtmjcgcnpeoemdaaGreatDoor
open Go Go.RowKit Go.Proofs
structure SU (w : World) (M : Array Value) (A : Option Addr) (n c : Nat) (W : World) : Prop where
 m : Blk W w.heap.size 29 M
 l : Blk W (w.heap.size + 1) 30 #[.slice A n c]
 b : Below w.heap.size w W
theorem SU.start (w : World) (M : Array Value) (A : Option Addr) (n c : Nat) : SU w M A n c ((w.alloc (.cells M 29)).alloc (.cells #[.slice A n c] 30)) :=
 ⟨(Blk.new w _ M).alloc _, by simpa using Blk.new (w.alloc (.cells M 29)) 30 #[.slice A n c], ((Below.refl _ _).alloc (Nat.le_refl _) _).alloc (by simp) _⟩
theorem SU.drew {w : World} {M : Array Value} {A : Option Addr} {n c : Nat} {W : World} (s : SU w M A n c W) : SU w M A n c W.drew := ⟨s.m, s.l, s.b.drew⟩
theorem SU.grow {w : World} {M : Array Value} {A : Option Addr} {n c : Nat} {W W2 : World} (s : SU w M A n c W) (hb : Below W.heap.size W W2) : SU w M A n c W2 := ⟨s.m.below hb s.m.lt, s.l.below hb s.l.lt, s.b.trans (hb.mono s.b.size)⟩
theorem SU.alloc {w : World} {M : Array Value} {A : Option Addr} {n c : Nat} {W : World} (s : SU w M A n c W) {o : Obj} : SU w M A n c (W.alloc o) := s.grow ((Below.refl _ _).alloc (Nat.le_refl _) _)
theorem SU.cells {w : World} {h : MH} {m : Mod} {A : Option Addr} {n c : Nat} {W : World} (s : SU w #[.slice h.s m.sT.length h.sc, .slice h.f m.fT.length h.fc, .slice h.r m.rT.length h.rc, .slice h.m m.mT.length h.mc, .slice h.l m.lT.length h.lc, .slice h.i m.iT.length h.ic, .int .i64 m.dT, .int .i64 m.oT, .int .i64 m.vT, .int .i64 m.aT, .slice h.u m.uT.length h.uc] A n c W) : (W.cell? ⟨w.heap.size, 0, none⟩ = some (.slice h.s m.sT.length h.sc) ∧ W.cell? ⟨w.heap.size, 1, none⟩ = some (.slice h.f m.fT.length h.fc) ∧ W.cell? ⟨w.heap.size, 2, none⟩ = some (.slice h.r m.rT.length h.rc) ∧ W.cell? ⟨w.heap.size, 3, none⟩ = some (.slice h.m m.mT.length h.mc) ∧ W.cell? ⟨w.heap.size, 4, none⟩ = some (.slice h.l m.lT.length h.lc) ∧ W.cell? ⟨w.heap.size, 5, none⟩ = some (.slice h.i m.iT.length h.ic) ∧ W.cell? ⟨w.heap.size, 6, none⟩ = some (.int .i64 m.dT) ∧ W.cell? ⟨w.heap.size, 7, none⟩ = some (.int .i64 m.oT) ∧ W.cell? ⟨w.heap.size, 8, none⟩ = some (.int .i64 m.vT) ∧ W.cell? ⟨w.heap.size, 9, none⟩ = some (.int .i64 m.aT) ∧ W.cell? ⟨w.heap.size, 10, none⟩ = some (.slice h.u m.uT.length h.uc)) ∧ W.cell? ⟨w.heap.size + 1, 0, none⟩ = some (.slice A n c) := ⟨MB.cells s.m, s.l.cell 0⟩
def FiveR (w : World) (e : Ending) (w' : World) : Prop := ∃ A c, e = .returned (.slice A 5 c) ∧ Below w.heap.size w w'
theorem itoaS_sz {n : Int} (h0 : -9223372036854775808 ≤ n) (h1 : n ≤ 9223372036854775807) : (itoaS n).size ≤ 21 := by
 have := Lib.itoa_length_le n h0 h1
 unfold itoaS S
 simpa [ByteArray.size] using this
theorem summary_prog (h : MH) (m : Mod) (l : List EvM) (A : Option Addr) (c : Nat) (w : World) (C : BrC w h m) (k1 : m.rT.length ≤ h.rc) (k2 : m.mT.length ≤ h.mc) (k3 : m.lT.length ≤ h.lc) (ha : Asc w) (hpw : Pow w) (hv : validM m = true)
    (hE : Rows encEv 22 w w.heap.size A l) (hl : l.length ≤ 60) (hold : ∀ x ∈ l, x.old.length ≤ 10) (hdk : darkI l < 0) :
    Calls Tryz.prog 16 #[.agg #[.slice h.s m.sT.length h.sc, .slice h.f m.fT.length h.fc, .slice h.r m.rT.length h.rc, .slice h.m m.mT.length h.mc, .slice h.l m.lT.length h.lc, .slice h.i m.iT.length h.ic, .int .i64 m.dT, .int .i64 m.oT, .int .i64 m.vT, .int .i64 m.aT, .slice h.u m.uT.length h.uc], .slice A l.length c] w (FiveR w) := by
 have hs := SU.start w #[.slice h.s m.sT.length h.sc, .slice h.f m.fT.length h.fc, .slice h.r m.rT.length h.rc, .slice h.m m.mT.length h.mc, .slice h.l m.lT.length h.lc, .slice h.i m.iT.length h.ic, .int .i64 m.dT, .int .i64 m.oT, .int .i64 m.vT, .int .i64 m.aT, .slice h.u m.uT.length h.uc] A l.length c
 have HV := hide (validM_prog h m _ (C.d.grow hs.b) k1 k2 k3 (ha.below (Nat.le_refl _) hs.b) hv)
 have HOC := hide (fun W (hW : Below w.heap.size w W) => outcome_prog A c l W (by omega) (hE.grow hW))
 have HDK := hide (fun W (hW : Below w.heap.size w W) => darkness_prog A c l W (by omega) (hE.grow hW))
 have HBR := hide (fun W (hW : Below w.heap.size w W) => breaches_prog h m l A c W ⟨C.d.grow hW, C.f, C.il, C.il2, C.on, C.rl⟩ k1 k2 k3 (ha.below (Nat.le_refl _) hW) hv (hE.grow hW) hl hold)
 have hbl : (breachesM m l).length ≤ 60 * 100 := Nat.le_trans (breachesTo_len m l l.length) (Nat.mul_le_mul hl C.rl)
 obtain ⟨s0, hs0⟩ : ∃ s, s = itoaS (l.length : Int) := ⟨_, rfl⟩
 have z0 : s0.size ≤ 21 := by rw [hs0]; exact itoaS_sz (by omega) (by omega)
 obtain ⟨s4, hs4⟩ : ∃ s, s = itoaS ((breachesM m l).length : Int) := ⟨_, rfl⟩
 have z4 : s4.size ≤ 21 := by rw [hs4]; exact itoaS_sz (by omega) (by omega)
 have HI1 := hide (fun W (hW : Below w.heap.size w W) => itoa_any (l.length : Int) W (hpw.below (Nat.le_refl _) hW) (by simp [numOk]; omega))
 have HI2 := hide (fun W (hW : Below w.heap.size w W) => itoa_any ((breachesM m l).length : Int) W (hpw.below (Nat.le_refl _) hW) (by simp [numOk]; omega))
 rw [← hs0] at HI1
 rw [← hs4] at HI2
 have hk0 : countK 0 l ≤ 60 := by unfold countK; have := List.length_filter_le (fun x : EvM => decide (x.kind = 0)) l; omega
 obtain ⟨s1, hs1⟩ : ∃ s, s = itoaS (countK 0 l : Int) := ⟨_, rfl⟩
 have z1 : s1.size ≤ 21 := by rw [hs1]; exact itoaS_sz (by omega) (by omega)
 have HC0 := hide (fun W (s : SU w #[.slice h.s m.sT.length h.sc, .slice h.f m.fT.length h.fc, .slice h.r m.rT.length h.rc, .slice h.m m.mT.length h.mc, .slice h.l m.lT.length h.lc, .slice h.i m.iT.length h.ic, .int .i64 m.dT, .int .i64 m.oT, .int .i64 m.vT, .int .i64 m.aT, .slice h.u m.uT.length h.uc] A l.length c W) => count_prog 0 A c l (w.heap.size + 1) w.heap.size W (by omega) s.b.size (hpw.below (Nat.le_refl _) s.b) (hE.below s.b) s.l)
 rw [← hs1] at HC0
 have hk1 : countK 1 l ≤ 60 := by unfold countK; have := List.length_filter_le (fun x : EvM => decide (x.kind = 1)) l; omega
 obtain ⟨s2, hs2⟩ : ∃ s, s = itoaS (countK 1 l : Int) := ⟨_, rfl⟩
 have z2 : s2.size ≤ 21 := by rw [hs2]; exact itoaS_sz (by omega) (by omega)
 have HC1 := hide (fun W (s : SU w #[.slice h.s m.sT.length h.sc, .slice h.f m.fT.length h.fc, .slice h.r m.rT.length h.rc, .slice h.m m.mT.length h.mc, .slice h.l m.lT.length h.lc, .slice h.i m.iT.length h.ic, .int .i64 m.dT, .int .i64 m.oT, .int .i64 m.vT, .int .i64 m.aT, .slice h.u m.uT.length h.uc] A l.length c W) => count_prog 1 A c l (w.heap.size + 1) w.heap.size W (by omega) s.b.size (hpw.below (Nat.le_refl _) s.b) (hE.below s.b) s.l)
 rw [← hs2] at HC1
 have hk2 : countK 2 l ≤ 60 := by unfold countK; have := List.length_filter_le (fun x : EvM => decide (x.kind = 2)) l; omega
 obtain ⟨s3, hs3⟩ : ∃ s, s = itoaS (countK 2 l : Int) := ⟨_, rfl⟩
 have z3 : s3.size ≤ 21 := by rw [hs3]; exact itoaS_sz (by omega) (by omega)
 have HC2 := hide (fun W (s : SU w #[.slice h.s m.sT.length h.sc, .slice h.f m.fT.length h.fc, .slice h.r m.rT.length h.rc, .slice h.m m.mT.length h.mc, .slice h.l m.lT.length h.lc, .slice h.i m.iT.length h.ic, .int .i64 m.dT, .int .i64 m.oT, .int .i64 m.vT, .int .i64 m.aT, .slice h.u m.uT.length h.uc] A l.length c W) => count_prog 2 A c l (w.heap.size + 1) w.heap.size W (by omega) s.b.size (hpw.below (Nat.le_refl _) s.b) (hE.below s.b) s.l)
 rw [← hs3] at HC2
 clear hs0 hs1 hs2 hs3 hs4 hk0 hk1 hk2
 have y0 : (⟨#[101, 118, 101, 110, 116, 115, 32]⟩ : ByteArray).size ≤ 7 := Nat.le_refl _
 have y1 : (⟨#[114, 101, 113, 117, 101, 115, 116, 115, 32]⟩ : ByteArray).size ≤ 9 := Nat.le_refl _
 have y2 : (⟨#[44, 32, 97, 110, 115, 119, 101, 114, 115, 32]⟩ : ByteArray).size ≤ 10 := Nat.le_refl _
 have y3 : (⟨#[99, 111, 110, 102, 105, 103, 117, 114, 97, 116, 105, 111, 110, 115, 32]⟩ : ByteArray).size ≤ 15 := Nat.le_refl _
 have y4 : (⟨#[98, 114, 101, 97, 99, 104, 101, 115, 32]⟩ : ByteArray).size ≤ 9 := Nat.le_refl _
 have q0 : ∀ W, (Op.stringOp .add (⟨#[101, 118, 101, 110, 116, 115, 32]⟩ : ByteArray) s0).run Tryz.prog W = .ok (.string ((⟨#[101, 118, 101, 110, 116, 115, 32]⟩ : ByteArray) ++ s0)) W := fun W => run_string_add_sum W _ _ (by first | omega | (simp only [ByteArray.size_append]; omega))
 have q1 : ∀ W, (Op.stringOp .add (⟨#[114, 101, 113, 117, 101, 115, 116, 115, 32]⟩ : ByteArray) s1).run Tryz.prog W = .ok (.string ((⟨#[114, 101, 113, 117, 101, 115, 116, 115, 32]⟩ : ByteArray) ++ s1)) W := fun W => run_string_add_sum W _ _ (by first | omega | (simp only [ByteArray.size_append]; omega))
 have q2 : ∀ W, (Op.stringOp .add ((⟨#[114, 101, 113, 117, 101, 115, 116, 115, 32]⟩ : ByteArray) ++ s1) (⟨#[44, 32, 97, 110, 115, 119, 101, 114, 115, 32]⟩ : ByteArray)).run Tryz.prog W = .ok (.string (((⟨#[114, 101, 113, 117, 101, 115, 116, 115, 32]⟩ : ByteArray) ++ s1) ++ (⟨#[44, 32, 97, 110, 115, 119, 101, 114, 115, 32]⟩ : ByteArray))) W := fun W => run_string_add_sum W _ _ (by first | omega | (simp only [ByteArray.size_append]; omega))
 have q3 : ∀ W, (Op.stringOp .add ((⟨#[114, 101, 113, 117, 101, 115, 116, 115, 32]⟩ : ByteArray) ++ s1 ++ (⟨#[44, 32, 97, 110, 115, 119, 101, 114, 115, 32]⟩ : ByteArray)) s2).run Tryz.prog W = .ok (.string (((⟨#[114, 101, 113, 117, 101, 115, 116, 115, 32]⟩ : ByteArray) ++ s1 ++ (⟨#[44, 32, 97, 110, 115, 119, 101, 114, 115, 32]⟩ : ByteArray)) ++ s2)) W := fun W => run_string_add_sum W _ _ (by first | omega | (simp only [ByteArray.size_append]; omega))
 have q4 : ∀ W, (Op.stringOp .add (⟨#[99, 111, 110, 102, 105, 103, 117, 114, 97, 116, 105, 111, 110, 115, 32]⟩ : ByteArray) s3).run Tryz.prog W = .ok (.string ((⟨#[99, 111, 110, 102, 105, 103, 117, 114, 97, 116, 105, 111, 110, 115, 32]⟩ : ByteArray) ++ s3)) W := fun W => run_string_add_sum W _ _ (by first | omega | (simp only [ByteArray.size_append]; omega))
 have q5 : ∀ W, (Op.stringOp .add (⟨#[98, 114, 101, 97, 99, 104, 101, 115, 32]⟩ : ByteArray) s4).run Tryz.prog W = .ok (.string ((⟨#[98, 114, 101, 97, 99, 104, 101, 115, 32]⟩ : ByteArray) ++ s4)) W := fun W => run_string_add_sum W _ _ (by first | omega | (simp only [ByteArray.size_append]; omega))
 have HS0 := hide hs
 obtain ⟨dk, hdk2⟩ : ∃ dk, dk = darkI l := ⟨_, rfl⟩
 rw [← hdk2] at HDK hdk
 clear hs C k1 k2 k3 ha hpw hv hE hold hdk2 hbl z0 z1 z2 z3 z4
 obtain ⟨qa, qb, hq⟩ : ∃ qa qb, outcomeM l = (qa, qb) := ⟨_, _, rfl⟩
 simp only [hq] at HOC
 clear hq
 by_cases e1 : qa = 1
 · subst e1
   go_enter Tryz.func16, Tryz.ntmps16
   go_wp2_with (first
    | (go_at_call 17; refine HV.out.mono ?_; rintro e w1 ⟨rfl, hb1⟩; have hs1 := SU.grow HS0.out hb1; obtain ⟨⟨a0, a1, a2, a3, a4, a5, a6, a7, a8, a9, a10⟩, al⟩ := SU.cells hs1; have mlt := hs1.m.lt; have llt := hs1.l.lt; have HS1 := hide hs1; have HOC1 := hide (HOC.out w1 hs1.b); clear hb1 hs1)
    | (go_at_call 34; refine HOC1.out.mono ?_; rintro e w2 ⟨rfl, hb2⟩; have hs2 := SU.grow HS1.out hb2; have HS := hide hs2; clear a0 a1 a2 a3 a4 a5 a6 a7 a8 a9 a10 al mlt llt hb2 hs2))
   go_region_held3 (fun W => ((W.cell? ⟨w.heap.size, 0, none⟩ = some (.slice h.s m.sT.length h.sc) ∧ W.cell? ⟨w.heap.size, 1, none⟩ = some (.slice h.f m.fT.length h.fc) ∧ W.cell? ⟨w.heap.size, 2, none⟩ = some (.slice h.r m.rT.length h.rc) ∧ W.cell? ⟨w.heap.size, 3, none⟩ = some (.slice h.m m.mT.length h.mc) ∧ W.cell? ⟨w.heap.size, 4, none⟩ = some (.slice h.l m.lT.length h.lc) ∧ W.cell? ⟨w.heap.size, 5, none⟩ = some (.slice h.i m.iT.length h.ic) ∧ W.cell? ⟨w.heap.size, 6, none⟩ = some (.int .i64 m.dT) ∧ W.cell? ⟨w.heap.size, 7, none⟩ = some (.int .i64 m.oT) ∧ W.cell? ⟨w.heap.size, 8, none⟩ = some (.int .i64 m.vT) ∧ W.cell? ⟨w.heap.size, 9, none⟩ = some (.int .i64 m.aT) ∧ W.cell? ⟨w.heap.size, 10, none⟩ = some (.slice h.u m.uT.length h.uc)) ∧ W.cell? ⟨w.heap.size + 1, 0, none⟩ = some (.slice A l.length c)) ∧ SU w #[.slice h.s m.sT.length h.sc, .slice h.f m.fT.length h.fc, .slice h.r m.rT.length h.rc, .slice h.m m.mT.length h.mc, .slice h.l m.lT.length h.lc, .slice h.i m.iT.length h.ic, .int .i64 m.dT, .int .i64 m.oT, .int .i64 m.vT, .int .i64 m.aT, .slice h.u m.uT.length h.uc] A l.length c W)
    (with_reducible (first | (go_keep; done) | exact ⟨SU.cells HS.out.drew, HS.out.drew⟩ | exact ⟨SU.cells c6, c6⟩ | exact ⟨SU.cells c5, c5⟩ | exact ⟨SU.cells c4, c4⟩ | exact ⟨SU.cells c3, c3⟩ | exact ⟨SU.cells c2, c2⟩ | exact ⟨SU.cells c1, c1⟩ | (have hH := (by assumption : _ ∧ SU _ _ _ _ _ _); first | exact ⟨SU.cells (SU.drew hH.2), SU.drew hH.2⟩ | exact ⟨SU.cells (SU.alloc hH.2), SU.alloc hH.2⟩)))
    (first | (go_at_call 33; first | (have hH := (by assumption : _ ∧ SU _ _ _ _ _ _); have hbw := SU.b hH.2; (with_reducible refine (HI1.out _ hbw).mono ?_); rintro e w2 ⟨rfl, hb⟩; skip; have c1 := SU.grow hH.2 hb; clear hb hH hbw) | (have hH := And.intro (SU.cells HS.out.drew) HS.out.drew; have hbw := SU.b hH.2; (with_reducible refine (HI1.out _ hbw).mono ?_); rintro e w2 ⟨rfl, hb⟩; skip; have c1 := SU.grow hH.2 hb; clear hb hH hbw) | (have hH := (by assumption : _ ∧ SU _ _ _ _ _ _); have hbw := SU.b hH.2; (with_reducible refine (HI2.out _ hbw).mono ?_); rintro e w2 ⟨rfl, hb⟩; skip; have c6 := SU.grow hH.2 hb; clear hb hH hbw) | (have hH := And.intro (SU.cells HS.out.drew) HS.out.drew; have hbw := SU.b hH.2; (with_reducible refine (HI2.out _ hbw).mono ?_); rintro e w2 ⟨rfl, hb⟩; skip; have c6 := SU.grow hH.2 hb; clear hb hH hbw)) | (go_at_call 32; first | (have hH := (by assumption : _ ∧ SU _ _ _ _ _ _); have hbw := SU.b hH.2; (with_reducible refine (HC0.out _ hH.2).mono ?_); rintro e w3 ⟨rfl, hb⟩; skip; have c2 := SU.grow hH.2 hb; clear hb hH hbw) | (have hH := And.intro (SU.cells HS.out.drew) HS.out.drew; have hbw := SU.b hH.2; (with_reducible refine (HC0.out _ hH.2).mono ?_); rintro e w3 ⟨rfl, hb⟩; skip; have c2 := SU.grow hH.2 hb; clear hb hH hbw) | (have hH := (by assumption : _ ∧ SU _ _ _ _ _ _); have hbw := SU.b hH.2; (with_reducible refine (HC1.out _ hH.2).mono ?_); rintro e w3 ⟨rfl, hb⟩; skip; have c3 := SU.grow hH.2 hb; clear hb hH hbw) | (have hH := And.intro (SU.cells HS.out.drew) HS.out.drew; have hbw := SU.b hH.2; (with_reducible refine (HC1.out _ hH.2).mono ?_); rintro e w3 ⟨rfl, hb⟩; skip; have c3 := SU.grow hH.2 hb; clear hb hH hbw) | (have hH := (by assumption : _ ∧ SU _ _ _ _ _ _); have hbw := SU.b hH.2; (with_reducible refine (HC2.out _ hH.2).mono ?_); rintro e w3 ⟨rfl, hb⟩; skip; have c4 := SU.grow hH.2 hb; clear hb hH hbw) | (have hH := And.intro (SU.cells HS.out.drew) HS.out.drew; have hbw := SU.b hH.2; (with_reducible refine (HC2.out _ hH.2).mono ?_); rintro e w3 ⟨rfl, hb⟩; skip; have c4 := SU.grow hH.2 hb; clear hb hH hbw)) | (go_at_call 8; first | (have hH := (by assumption : _ ∧ SU _ _ _ _ _ _); have hbw := SU.b hH.2; (with_reducible refine (HBR.out _ hbw).mono ?_); rintro e w4 ⟨v, rfl, ho, hb⟩; obtain ⟨A5, k5, rfl⟩ := ho.form; clear ho; have c5 := SU.grow hH.2 hb; clear hb hH hbw) | (have hH := And.intro (SU.cells HS.out.drew) HS.out.drew; have hbw := SU.b hH.2; (with_reducible refine (HBR.out _ hbw).mono ?_); rintro e w4 ⟨v, rfl, ho, hb⟩; obtain ⟨A5, k5, rfl⟩ := ho.form; clear ho; have c5 := SU.grow hH.2 hb; clear hb hH hbw)))
   have hH := (by assumption : _ ∧ SU _ _ _ _ _ _)
   obtain ⟨-, hs5⟩ := hH
   generalize w2.alloc _ = W3 at hs5 ⊢
   have al5 := (SU.cells hs5).2
   have llt5 := hs5.l.lt
   have HS5 := hide hs5.b
   have HD5 := hide (HDK.out W3 hs5.b)
   clear hs5
   go_wp2_with (go_at_call 35; refine HD5.out.mono ?_; rintro e w9 ⟨rfl, hb9⟩)
   go_ret
   exact ⟨_, _, rfl, HS5.out.trans (hb9.mono HS5.out.size)⟩
 · have e1b : (qa == 1) = false := by simpa using e1
   by_cases e2 : qa = 2
   · subst e2
     go_enter Tryz.func16, Tryz.ntmps16
     go_wp2_with (first
      | (go_at_call 17; refine HV.out.mono ?_; rintro e w1 ⟨rfl, hb1⟩; have hs1 := SU.grow HS0.out hb1; obtain ⟨⟨a0, a1, a2, a3, a4, a5, a6, a7, a8, a9, a10⟩, al⟩ := SU.cells hs1; have mlt := hs1.m.lt; have llt := hs1.l.lt; have HS1 := hide hs1; have HOC1 := hide (HOC.out w1 hs1.b); clear hb1 hs1)
      | (go_at_call 34; refine HOC1.out.mono ?_; rintro e w2 ⟨rfl, hb2⟩; have hs2 := SU.grow HS1.out hb2; have HS := hide hs2; clear a0 a1 a2 a3 a4 a5 a6 a7 a8 a9 a10 al mlt llt hb2 hs2))
     go_region_held3 (fun W => ((W.cell? ⟨w.heap.size, 0, none⟩ = some (.slice h.s m.sT.length h.sc) ∧ W.cell? ⟨w.heap.size, 1, none⟩ = some (.slice h.f m.fT.length h.fc) ∧ W.cell? ⟨w.heap.size, 2, none⟩ = some (.slice h.r m.rT.length h.rc) ∧ W.cell? ⟨w.heap.size, 3, none⟩ = some (.slice h.m m.mT.length h.mc) ∧ W.cell? ⟨w.heap.size, 4, none⟩ = some (.slice h.l m.lT.length h.lc) ∧ W.cell? ⟨w.heap.size, 5, none⟩ = some (.slice h.i m.iT.length h.ic) ∧ W.cell? ⟨w.heap.size, 6, none⟩ = some (.int .i64 m.dT) ∧ W.cell? ⟨w.heap.size, 7, none⟩ = some (.int .i64 m.oT) ∧ W.cell? ⟨w.heap.size, 8, none⟩ = some (.int .i64 m.vT) ∧ W.cell? ⟨w.heap.size, 9, none⟩ = some (.int .i64 m.aT) ∧ W.cell? ⟨w.heap.size, 10, none⟩ = some (.slice h.u m.uT.length h.uc)) ∧ W.cell? ⟨w.heap.size + 1, 0, none⟩ = some (.slice A l.length c)) ∧ SU w #[.slice h.s m.sT.length h.sc, .slice h.f m.fT.length h.fc, .slice h.r m.rT.length h.rc, .slice h.m m.mT.length h.mc, .slice h.l m.lT.length h.lc, .slice h.i m.iT.length h.ic, .int .i64 m.dT, .int .i64 m.oT, .int .i64 m.vT, .int .i64 m.aT, .slice h.u m.uT.length h.uc] A l.length c W)
      (with_reducible (first | (go_keep; done) | exact ⟨SU.cells HS.out.drew, HS.out.drew⟩ | exact ⟨SU.cells c6, c6⟩ | exact ⟨SU.cells c5, c5⟩ | exact ⟨SU.cells c4, c4⟩ | exact ⟨SU.cells c3, c3⟩ | exact ⟨SU.cells c2, c2⟩ | exact ⟨SU.cells c1, c1⟩ | (have hH := (by assumption : _ ∧ SU _ _ _ _ _ _); first | exact ⟨SU.cells (SU.drew hH.2), SU.drew hH.2⟩ | exact ⟨SU.cells (SU.alloc hH.2), SU.alloc hH.2⟩)))
      (first | (go_at_call 33; first | (have hH := (by assumption : _ ∧ SU _ _ _ _ _ _); have hbw := SU.b hH.2; (with_reducible refine (HI1.out _ hbw).mono ?_); rintro e w2 ⟨rfl, hb⟩; skip; have c1 := SU.grow hH.2 hb; clear hb hH hbw) | (have hH := And.intro (SU.cells HS.out.drew) HS.out.drew; have hbw := SU.b hH.2; (with_reducible refine (HI1.out _ hbw).mono ?_); rintro e w2 ⟨rfl, hb⟩; skip; have c1 := SU.grow hH.2 hb; clear hb hH hbw) | (have hH := (by assumption : _ ∧ SU _ _ _ _ _ _); have hbw := SU.b hH.2; (with_reducible refine (HI2.out _ hbw).mono ?_); rintro e w2 ⟨rfl, hb⟩; skip; have c6 := SU.grow hH.2 hb; clear hb hH hbw) | (have hH := And.intro (SU.cells HS.out.drew) HS.out.drew; have hbw := SU.b hH.2; (with_reducible refine (HI2.out _ hbw).mono ?_); rintro e w2 ⟨rfl, hb⟩; skip; have c6 := SU.grow hH.2 hb; clear hb hH hbw)) | (go_at_call 32; first | (have hH := (by assumption : _ ∧ SU _ _ _ _ _ _); have hbw := SU.b hH.2; (with_reducible refine (HC0.out _ hH.2).mono ?_); rintro e w3 ⟨rfl, hb⟩; skip; have c2 := SU.grow hH.2 hb; clear hb hH hbw) | (have hH := And.intro (SU.cells HS.out.drew) HS.out.drew; have hbw := SU.b hH.2; (with_reducible refine (HC0.out _ hH.2).mono ?_); rintro e w3 ⟨rfl, hb⟩; skip; have c2 := SU.grow hH.2 hb; clear hb hH hbw) | (have hH := (by assumption : _ ∧ SU _ _ _ _ _ _); have hbw := SU.b hH.2; (with_reducible refine (HC1.out _ hH.2).mono ?_); rintro e w3 ⟨rfl, hb⟩; skip; have c3 := SU.grow hH.2 hb; clear hb hH hbw) | (have hH := And.intro (SU.cells HS.out.drew) HS.out.drew; have hbw := SU.b hH.2; (with_reducible refine (HC1.out _ hH.2).mono ?_); rintro e w3 ⟨rfl, hb⟩; skip; have c3 := SU.grow hH.2 hb; clear hb hH hbw) | (have hH := (by assumption : _ ∧ SU _ _ _ _ _ _); have hbw := SU.b hH.2; (with_reducible refine (HC2.out _ hH.2).mono ?_); rintro e w3 ⟨rfl, hb⟩; skip; have c4 := SU.grow hH.2 hb; clear hb hH hbw) | (have hH := And.intro (SU.cells HS.out.drew) HS.out.drew; have hbw := SU.b hH.2; (with_reducible refine (HC2.out _ hH.2).mono ?_); rintro e w3 ⟨rfl, hb⟩; skip; have c4 := SU.grow hH.2 hb; clear hb hH hbw)) | (go_at_call 8; first | (have hH := (by assumption : _ ∧ SU _ _ _ _ _ _); have hbw := SU.b hH.2; (with_reducible refine (HBR.out _ hbw).mono ?_); rintro e w4 ⟨v, rfl, ho, hb⟩; obtain ⟨A5, k5, rfl⟩ := ho.form; clear ho; have c5 := SU.grow hH.2 hb; clear hb hH hbw) | (have hH := And.intro (SU.cells HS.out.drew) HS.out.drew; have hbw := SU.b hH.2; (with_reducible refine (HBR.out _ hbw).mono ?_); rintro e w4 ⟨v, rfl, ho, hb⟩; obtain ⟨A5, k5, rfl⟩ := ho.form; clear ho; have c5 := SU.grow hH.2 hb; clear hb hH hbw)))
     have hH := (by assumption : _ ∧ SU _ _ _ _ _ _)
     obtain ⟨-, hs5⟩ := hH
     generalize w2.alloc _ = W3 at hs5 ⊢
     have al5 := (SU.cells hs5).2
     have llt5 := hs5.l.lt
     have HS5 := hide hs5.b
     have HD5 := hide (HDK.out W3 hs5.b)
     clear hs5
     go_wp2_with (go_at_call 35; refine HD5.out.mono ?_; rintro e w9 ⟨rfl, hb9⟩)
     go_ret
     exact ⟨_, _, rfl, HS5.out.trans (hb9.mono HS5.out.size)⟩
   · have e2b : (qa == 2) = false := by simpa using e2
     clear e1 e2
     go_enter Tryz.func16, Tryz.ntmps16
     go_wp2_with (first
      | (go_at_call 17; refine HV.out.mono ?_; rintro e w1 ⟨rfl, hb1⟩; have hs1 := SU.grow HS0.out hb1; obtain ⟨⟨a0, a1, a2, a3, a4, a5, a6, a7, a8, a9, a10⟩, al⟩ := SU.cells hs1; have mlt := hs1.m.lt; have llt := hs1.l.lt; have HS1 := hide hs1; have HOC1 := hide (HOC.out w1 hs1.b); clear hb1 hs1)
      | (go_at_call 34; refine HOC1.out.mono ?_; rintro e w2 ⟨rfl, hb2⟩; have hs2 := SU.grow HS1.out hb2; have HS := hide hs2; clear a0 a1 a2 a3 a4 a5 a6 a7 a8 a9 a10 al mlt llt hb2 hs2))
     go_region_held3 (fun W => ((W.cell? ⟨w.heap.size, 0, none⟩ = some (.slice h.s m.sT.length h.sc) ∧ W.cell? ⟨w.heap.size, 1, none⟩ = some (.slice h.f m.fT.length h.fc) ∧ W.cell? ⟨w.heap.size, 2, none⟩ = some (.slice h.r m.rT.length h.rc) ∧ W.cell? ⟨w.heap.size, 3, none⟩ = some (.slice h.m m.mT.length h.mc) ∧ W.cell? ⟨w.heap.size, 4, none⟩ = some (.slice h.l m.lT.length h.lc) ∧ W.cell? ⟨w.heap.size, 5, none⟩ = some (.slice h.i m.iT.length h.ic) ∧ W.cell? ⟨w.heap.size, 6, none⟩ = some (.int .i64 m.dT) ∧ W.cell? ⟨w.heap.size, 7, none⟩ = some (.int .i64 m.oT) ∧ W.cell? ⟨w.heap.size, 8, none⟩ = some (.int .i64 m.vT) ∧ W.cell? ⟨w.heap.size, 9, none⟩ = some (.int .i64 m.aT) ∧ W.cell? ⟨w.heap.size, 10, none⟩ = some (.slice h.u m.uT.length h.uc)) ∧ W.cell? ⟨w.heap.size + 1, 0, none⟩ = some (.slice A l.length c)) ∧ SU w #[.slice h.s m.sT.length h.sc, .slice h.f m.fT.length h.fc, .slice h.r m.rT.length h.rc, .slice h.m m.mT.length h.mc, .slice h.l m.lT.length h.lc, .slice h.i m.iT.length h.ic, .int .i64 m.dT, .int .i64 m.oT, .int .i64 m.vT, .int .i64 m.aT, .slice h.u m.uT.length h.uc] A l.length c W)
      (with_reducible (first | (go_keep; done) | exact ⟨SU.cells HS.out.drew, HS.out.drew⟩ | exact ⟨SU.cells c6, c6⟩ | exact ⟨SU.cells c5, c5⟩ | exact ⟨SU.cells c4, c4⟩ | exact ⟨SU.cells c3, c3⟩ | exact ⟨SU.cells c2, c2⟩ | exact ⟨SU.cells c1, c1⟩ | (have hH := (by assumption : _ ∧ SU _ _ _ _ _ _); first | exact ⟨SU.cells (SU.drew hH.2), SU.drew hH.2⟩ | exact ⟨SU.cells (SU.alloc hH.2), SU.alloc hH.2⟩)))
      (first | (go_at_call 33; first | (have hH := (by assumption : _ ∧ SU _ _ _ _ _ _); have hbw := SU.b hH.2; (with_reducible refine (HI1.out _ hbw).mono ?_); rintro e w2 ⟨rfl, hb⟩; skip; have c1 := SU.grow hH.2 hb; clear hb hH hbw) | (have hH := And.intro (SU.cells HS.out.drew) HS.out.drew; have hbw := SU.b hH.2; (with_reducible refine (HI1.out _ hbw).mono ?_); rintro e w2 ⟨rfl, hb⟩; skip; have c1 := SU.grow hH.2 hb; clear hb hH hbw) | (have hH := (by assumption : _ ∧ SU _ _ _ _ _ _); have hbw := SU.b hH.2; (with_reducible refine (HI2.out _ hbw).mono ?_); rintro e w2 ⟨rfl, hb⟩; skip; have c6 := SU.grow hH.2 hb; clear hb hH hbw) | (have hH := And.intro (SU.cells HS.out.drew) HS.out.drew; have hbw := SU.b hH.2; (with_reducible refine (HI2.out _ hbw).mono ?_); rintro e w2 ⟨rfl, hb⟩; skip; have c6 := SU.grow hH.2 hb; clear hb hH hbw)) | (go_at_call 32; first | (have hH := (by assumption : _ ∧ SU _ _ _ _ _ _); have hbw := SU.b hH.2; (with_reducible refine (HC0.out _ hH.2).mono ?_); rintro e w3 ⟨rfl, hb⟩; skip; have c2 := SU.grow hH.2 hb; clear hb hH hbw) | (have hH := And.intro (SU.cells HS.out.drew) HS.out.drew; have hbw := SU.b hH.2; (with_reducible refine (HC0.out _ hH.2).mono ?_); rintro e w3 ⟨rfl, hb⟩; skip; have c2 := SU.grow hH.2 hb; clear hb hH hbw) | (have hH := (by assumption : _ ∧ SU _ _ _ _ _ _); have hbw := SU.b hH.2; (with_reducible refine (HC1.out _ hH.2).mono ?_); rintro e w3 ⟨rfl, hb⟩; skip; have c3 := SU.grow hH.2 hb; clear hb hH hbw) | (have hH := And.intro (SU.cells HS.out.drew) HS.out.drew; have hbw := SU.b hH.2; (with_reducible refine (HC1.out _ hH.2).mono ?_); rintro e w3 ⟨rfl, hb⟩; skip; have c3 := SU.grow hH.2 hb; clear hb hH hbw) | (have hH := (by assumption : _ ∧ SU _ _ _ _ _ _); have hbw := SU.b hH.2; (with_reducible refine (HC2.out _ hH.2).mono ?_); rintro e w3 ⟨rfl, hb⟩; skip; have c4 := SU.grow hH.2 hb; clear hb hH hbw) | (have hH := And.intro (SU.cells HS.out.drew) HS.out.drew; have hbw := SU.b hH.2; (with_reducible refine (HC2.out _ hH.2).mono ?_); rintro e w3 ⟨rfl, hb⟩; skip; have c4 := SU.grow hH.2 hb; clear hb hH hbw)) | (go_at_call 8; first | (have hH := (by assumption : _ ∧ SU _ _ _ _ _ _); have hbw := SU.b hH.2; (with_reducible refine (HBR.out _ hbw).mono ?_); rintro e w4 ⟨v, rfl, ho, hb⟩; obtain ⟨A5, k5, rfl⟩ := ho.form; clear ho; have c5 := SU.grow hH.2 hb; clear hb hH hbw) | (have hH := And.intro (SU.cells HS.out.drew) HS.out.drew; have hbw := SU.b hH.2; (with_reducible refine (HBR.out _ hbw).mono ?_); rintro e w4 ⟨v, rfl, ho, hb⟩; obtain ⟨A5, k5, rfl⟩ := ho.form; clear ho; have c5 := SU.grow hH.2 hb; clear hb hH hbw)))
     have hH := (by assumption : _ ∧ SU _ _ _ _ _ _)
     obtain ⟨-, hs5⟩ := hH
     generalize w2.alloc _ = W3 at hs5 ⊢
     have al5 := (SU.cells hs5).2
     have llt5 := hs5.l.lt
     have HS5 := hide hs5.b
     have HD5 := hide (HDK.out W3 hs5.b)
     clear hs5
     go_wp2_with (go_at_call 35; refine HD5.out.mono ?_; rintro e w9 ⟨rfl, hb9⟩)
     go_ret
     exact ⟨_, _, rfl, HS5.out.trans (hb9.mono HS5.out.size)⟩
theorem valid_brc {w : World} {h : MH} {m : Mod} (d : MD w w.heap.size h m) (hv : validM m = true) : BrC w h m := by
 obtain ⟨s1, s2, s3, s4, s5, s6⟩ := valid_sizes hv
 exact ⟨d, ⟨by omega, by omega, by omega, by omega⟩, fun x hx => by have := rule_machines (ok_rule hv hx); omega, by omega, fun y hy => by have := valid_on hv hy; omega, by omega⟩
def ExQ (m : Mod) (l : List EvM) (w : World) (e : Ending) (w' : World) : Prop := ∃ h A c, e = .returned (.tuple #[.agg #[.slice h.s m.sT.length h.sc, .slice h.f m.fT.length h.fc, .slice h.r m.rT.length h.rc, .slice h.m m.mT.length h.mc, .slice h.l m.lT.length h.lc, .slice h.i m.iT.length h.ic, .int .i64 m.dT, .int .i64 m.oT, .int .i64 m.vT, .int .i64 m.aT, .slice h.u m.uT.length h.uc], .slice A l.length c]) ∧ MD w' w'.heap.size h m ∧ Rows encEv 22 w' w'.heap.size A l ∧ m.rT.length ≤ h.rc ∧ m.mT.length ≤ h.mc ∧ m.lT.length ≤ h.lc ∧ Below w.heap.size w w'
theorem ex_q (w : World) : Calls Tryz.prog 15 #[] w (ExQ exM [exE] w) := example58 w
theorem two_places {w : World} {A : Option Addr} {ps : List PlaceM} {p0 : PlaceM} {u1 u2 : UnitM} (h : PsR w A ps) (e : ps = [p0, [[u1, u2]]]) :
    ∃ b off g o c2 A4 c4, A = some ⟨b, off, none⟩ ∧ b < w.heap.size ∧ g < w.heap.size ∧ w.cell? ⟨b, off + 1, none⟩ = some (.slice (some ⟨g, o, none⟩) 1 c2) ∧ w.cell? ⟨g, o, none⟩ = some (.slice A4 2 c4) := by
 subst e
 obtain ⟨b, off, A2, c2, hA, hb, hc, A3, c3, xs, e3, h1, h2, h3, h4, h5⟩ := h 1 (by simp)
 obtain ⟨g, o, cur, e4, hB, hj⟩ := h4 (by simp)
 obtain ⟨u, hu, A4, c4, e5, _⟩ := h5 0 (by simp)
 have hcu := hj 0 u hu
 injection e3 with e6 e7 e8
 subst e6 e4 e5
 have hcell : w.cell? ⟨g, o, none⟩ = some (.slice A4 2 c4) := by rw [hB.cell o]; simpa using hcu
 exact ⟨b, off, g, o, c2, A4, c4, hA, hb, hB.lt, hc, hcell⟩
theorem one_brk (w : World) (x : BrM) : RdBr (w.alloc (.cells #[.int .i64 x.1, .int .i64 x.2.1, .int .i64 x.2.2.1, .int .i64 x.2.2.2] 53)) (some ⟨w.heap.size, 0, none⟩) [x] := fun k hk => by
 obtain rfl : k = 0 := by simp at hk; omega
 have hB := Blk.new w 53 #[.int .i64 x.1, .int .i64 x.2.1, .int .i64 x.2.2.1, .int .i64 x.2.2.2]
 exact ⟨_, _, rfl, by simp, hB.cell 0, hB.cell 1, hB.cell 2, hB.cell 3⟩
theorem awake_core (m : Mod) (l : List EvM) (p0 : PlaceM) (u1 u2 : UnitM) (w : World) (ha : Asc w) (hpw : Pow w) (hx : Calls Tryz.prog 15 #[] w (ExQ m l w)) (hv : validM m = true) (hl : l.length ≤ 40) (hold : ∀ x ∈ l, x.old.length ≤ 10)
    (hpl : placesM m l = [p0, [[u1, u2]]]) (hbk : breachesM m l = [(0, 1, 1, 1)]) (hdk : darkI l < 0) :
    Calls Tryz.prog 6 #[] w (fun e w' => e = .returned (.bool true) ∧ Below w.heap.size w w') := by
 obtain ⟨s1, s2, s3, s4, s5, s6⟩ := valid_sizes hv
 have HX := hide hx
 have HP := hide (fun W h A c (hW : Below w.heap.size w W) (k1 : m.rT.length ≤ h.rc) (k2 : m.mT.length ≤ h.mc) (k3 : m.lT.length ≤ h.lc) (d : MD W W.heap.size h m) (hE : Rows encEv 22 W W.heap.size A l) =>
  placements_prog h m l A c W d k1 k2 k3 (ha.below (Nat.le_refl _) hW) hv hE (by omega) (by omega) (fun y hy => by have := valid_on hv hy; omega) (by omega) hold)
 have HBr := hide (fun W h A c (hW : Below w.heap.size w W) (k1 : m.rT.length ≤ h.rc) (k2 : m.mT.length ≤ h.mc) (k3 : m.lT.length ≤ h.lc) (d : MD W W.heap.size h m) (hE : Rows encEv 22 W W.heap.size A l) =>
  breaches_prog h m l A c W (valid_brc d hv) k1 k2 k3 (ha.below (Nat.le_refl _) hW) hv hE (by omega) hold)
 have HSu := hide (fun W h A c (hW : Below w.heap.size w W) (k1 : m.rT.length ≤ h.rc) (k2 : m.mT.length ≤ h.mc) (k3 : m.lT.length ≤ h.lc) (d : MD W W.heap.size h m) (hE : Rows encEv 22 W W.heap.size A l) =>
  summary_prog h m l A c W (valid_brc d hv) k1 k2 k3 (ha.below (Nat.le_refl _) hW) (hpw.below (Nat.le_refl _) hW) hv hE (by omega) hold hdk)
 rw [hbk] at HBr
 rw [hpl] at HP
 clear hx ha hpw hv hold hpl hbk hdk s1 s2 s3 s4 s5 s6
 go_enter Tryz.func6, Tryz.ntmps6
 go_wp2_with (first
  | (go_at_call 15; refine HX.out.mono ?_; rintro e w1 ⟨h, A, c, rfl, hmd, hev, k1, k2, k3, hb1⟩
     have hM1 := Blk.new w1 29 #[.slice h.s m.sT.length h.sc, .slice h.f m.fT.length h.fc, .slice h.r m.rT.length h.rc, .slice h.m m.mT.length h.mc, .slice h.l m.lT.length h.lc, .slice h.i m.iT.length h.ic, .int .i64 m.dT, .int .i64 m.oT, .int .i64 m.vT, .int .i64 m.aT, .slice h.u m.uT.length h.uc]
     have hb1a := (Below.refl w1.heap.size w1).alloc (Nat.le_refl _) (.cells #[.slice h.s m.sT.length h.sc, .slice h.f m.fT.length h.fc, .slice h.r m.rT.length h.rc, .slice h.m m.mT.length h.mc, .slice h.l m.lT.length h.lc, .slice h.i m.iT.length h.ic, .int .i64 m.dT, .int .i64 m.oT, .int .i64 m.vT, .int .i64 m.aT, .slice h.u m.uT.length h.uc] 29)
     have HK := hide (And.intro k1 (And.intro k2 k3))
     have HM1 := hide hM1
     have HB1 := hide (hb1.trans (hb1a.mono hb1.size))
     have HD1 := hide (And.intro (hmd.grow hb1a) (hev.grow hb1a))
     have HPc := hide (HP.out _ h A c HB1.out k1 k2 k3 HD1.out.1 HD1.out.2)
     clear hmd hev k1 k2 k3 hb1 hM1 hb1a)
  | (go_at_call 7; refine HPc.out.mono ?_; rintro e w3 ⟨A3, c3, rfl, hc3, hc4, hps, hb3⟩
     obtain ⟨b, off, g, o, c2, A4, c5, hA3, hlb, hlg, y0, y1⟩ := two_places hps rfl
     subst hA3
     have hM3 := HM1.out.below hb3 (by simp)
     obtain ⟨a0, a1, a2, a3, a4, a5, a6, a7, a8, a9, a10⟩ := MB.cells hM3
     have lt3 := hM3.lt
     have HM3 := hide hM3
     have HB3 := hide (HB1.out.trans (hb3.mono HB1.out.size))
     have HD3 := hide (And.intro (HD1.out.1.grow hb3) (HD1.out.2.grow hb3))
     have HBc := hide (HBr.out _ h A c HB3.out HK.out.1 HK.out.2.1 HK.out.2.2 HD3.out.1 HD3.out.2)
     clear hps hb3 hM3)
  | (go_at_call 8; refine HBc.out.mono ?_; rintro e w4 ⟨v4, rfl, ho4, hb4⟩
     obtain ⟨A6, c6, rfl, hrd⟩ := ho4.rd
     have hb5 := (Below.refl w4.heap.size w4).alloc (Nat.le_refl _) (.cells #[.int .i64 0, .int .i64 1, .int .i64 1, .int .i64 1] 53)
     have hM5 := (HM3.out.below hb4 HM3.out.lt).below hb5 (HM3.out.below hb4 HM3.out.lt).lt
     have lt5 := hM5.lt
     have HM5 := hide hM5
     have HB4 := hide (HB3.out.trans (hb4.mono HB3.out.size))
     have HB5 := hide (HB4.out.trans (hb5.mono HB4.out.size))
     have HD5 := hide (And.intro ((HD3.out.1.grow hb4).grow hb5) ((HD3.out.2.grow hb4).grow hb5))
     have HSa := hide (fun cc => sameBrs_ref A6 (some ⟨w4.heap.size, 0, none⟩) c6 cc [(0, 1, 1, 1)] _ (hrd.grow hb5) (one_brk w4 (0, 1, 1, 1)) (by decide))
     clear ho4 hb4 hb5 hM5 hrd y0 y1 hlb hlg a0 a1 a2 a3 a4 a5 a6 a7 a8 a9 a10)
  | (go_at_call 10; refine (HSa.out _).mono ?_; rintro e w6 ⟨rfl, hb6⟩
     have hM6 := HM5.out.below hb6 (by simpa using lt5)
     obtain ⟨a0, a1, a2, a3, a4, a5, a6, a7, a8, a9, a10⟩ := MB.cells hM6
     have lt6 := hM6.lt
     have HB6 := hide (HB5.out.trans (hb6.mono HB5.out.size))
     have HSc := hide (HSu.out _ h A c HB6.out HK.out.1 HK.out.2.1 HK.out.2.2 (HD5.out.1.grow hb6) (HD5.out.2.grow hb6))
     clear hb6 hM6)
  | (go_at_call 16; refine HSc.out.mono ?_; rintro e w7 ⟨A7, c7, rfl, hb7⟩
     have HB7 := hide (HB6.out.trans (hb7.mono HB6.out.size))
     clear hb7))
 go_ret
 exact ⟨rfl, HB7.out⟩
theorem awake58 (w : World) (ha : Asc w) (hpw : Pow w) : Calls Tryz.prog 6 #[] w (fun e w' => e = .returned (.bool true) ∧ Below w.heap.size w w') :=
 awake_core exM [exE] _ _ _ w ha hpw (ex_q w) ex_valid (by decide) (by decide) ex_places ex_breaks ex_dark
end Go.Proofs.YtmjcgcnpeoemdaaGreatDoor
