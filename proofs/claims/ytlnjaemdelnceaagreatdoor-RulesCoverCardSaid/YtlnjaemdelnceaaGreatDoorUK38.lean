/- A part of the claim: see its last text. -/
import Derived.Test.YtlnjaemdelnceaaGreatDoorUK37
import Derived.BigQuiet
import Derived.Deep.QuietTactic

set_option maxRecDepth 100000
set_option maxHeartbeats 16000000
namespace Go.Proofs.YtlnjaemdelnceaaGreatDoor
open Go Go.RowKit Go.Proofs
theorem find_idx {α : Type} {l : List α} {f : α → Bool} : l.find? f = match l.findIdx? f with | some i => l[i]? | none => none := by
 induction l with
 | nil => rfl
 | cons a l ih =>
   rw [List.find?_cons, List.findIdx?_cons]
   cases h : f a
   · simp only [Bool.false_eq_true, ↓reduceIte]
     rw [ih]
     cases l.findIdx? f <;> simp
   · simp
theorem find_at {α : Type} {p : α → Bool} {l : List α} {k : Nat} (hk : k < l.length) (h : p l[k] = true) (hb : ∀ j (hj : j < l.length), j < k → p l[j] = false) : l.find? p = some l[k] := by
 have : l.findIdx? p = some k := by
  rw [List.findIdx?_eq_some_iff_getElem]
  exact ⟨hk, h, fun j hj => by simpa using hb j (by omega) hj⟩
 rw [find_idx, this]; simp [hk]
theorem find_none {α : Type} {p : α → Bool} {l : List α} (hb : ∀ j (hj : j < l.length), p l[j] = false) : l.find? p = none := by
 rw [List.find?_eq_none]
 intro x hx
 obtain ⟨j, hj, rfl⟩ := List.getElem_of_mem hx
 simp [hb j hj]
theorem elsewhere_eq (r : RuleM) (p : PlaceM) : elsewhereI r p = ((unitsP p r.item).find? fun u => !decide (u.1 ∈ r.machines)).map (·.1) := by
 unfold elsewhereI
 rw [List.find?_map]; rfl
theorem elsewhere_ref (x : RuleM) (A : Option Addr) (c : Nat) (Ap : Option Addr) (cp : Nat) (p : PlaceM) (w : World) (hp : PR w w.heap.size Ap p) (hl : p.length ≤ 1000) (hul : (unitsP p x.item).length ≤ 1000) (hI : Ints w w.heap.size A x.machines) (hml : x.machines.length ≤ 9223372036854775807) :
    Calls Tryz.prog 37 #[.agg #[.int .i64 x.kind, .int .i64 x.item, .int .i64 x.other, .int .i64 x.n, .int .i64 x.by_, .bool x.always, .slice A x.machines.length c], .agg #[.slice Ap p.length cp]] w (AnsB w (.tuple #[.int .i64 ((elsewhereI x p).getD 0), .bool (elsewhereI x p).isSome])) := by
 obtain ⟨w0, e0⟩ : ∃ w0, w0 = (w.alloc (.cells #[.int .i64 x.kind, .int .i64 x.item, .int .i64 x.other, .int .i64 x.n, .int .i64 x.by_, .bool x.always, .slice A x.machines.length c] 32)).alloc (.cells #[.slice Ap p.length cp] 35) := ⟨_, rfl⟩
 have hb0 : Below w.heap.size w w0 := by rw [e0]; exact ((Below.refl w.heap.size w).alloc (Nat.le_refl _) _).alloc (by simp) _
 have HR0 := hide (show Blk w0 w.heap.size 32 #[.int .i64 x.kind, .int .i64 x.item, .int .i64 x.other, .int .i64 x.n, .int .i64 x.by_, .bool x.always, .slice A x.machines.length c] by rw [e0]; exact (Blk.new w _ _).alloc _)
 have HB := hide hb0
 have HU := hide (units_rd Ap cp p x.item w0 (hp.grow hb0) (by omega))
 have HIw := hide (fun W (hW : Below w.heap.size w W) => hI.grow hW)
 have HE := hide e0
 have HEQ := hide (elsewhere_eq x p)
 obtain ⟨l, hL⟩ : ∃ l, l = unitsP p x.item := ⟨_, rfl⟩
 rw [← hL] at HU hul HEQ
 clear hb0 hp hI hL e0
 go_enter Tryz.func37, Tryz.ntmps37
 go_wp2_with (rw [← HE.out]; go_at_call 43; refine HU.out.mono ?_; rintro e w1 ⟨A1, c1, rfl, hr1, hb1⟩
              have HR1 := hide (HR0.out.below hb1 HR0.out.lt)
              have HB1 := hide (HB.out.trans (hb1.mono HB.out.size))
              have HF1 := hide hr1
              clear hb1 hr1)
 clear HR0
 go_loopw [7] (fun i wr => ∃ k : Nat, k ≤ l.length ∧ i = .int .i64 k ∧ Below w1.heap.size w1 wr ∧ Hid (∀ j (hj : j < l.length), j < k → (fun u : UnitM => !decide (u.1 ∈ x.machines)) l[j] = false)) (fun i _ => l.length - (intOf i).toNat)
 case atStart => exact ⟨0, Nat.zero_le _, rfl, Below.refl _ _, fun j hj h0 => absurd h0 (by omega)⟩
 case round =>
  obtain ⟨k, hk, rfl, hbr, hs⟩ := hrel
  by_cases hlt : k < l.length
  · obtain ⟨b, off, hA, hb, x0, x1⟩ := HF1.out.at_ hlt
    subst hA
    obtain ⟨y, hy⟩ : ∃ y, y = l[k] := ⟨_, rfl⟩
    rw [← hy] at x0
    have HY := hide hy
    have HRB := HR1.out.below hbr HR1.out.lt
    have y6 := HRB.cell 6
    have yl := HRB.lt
    simp at y6
    have z0 := (hbr.cell (p := ⟨b, off + k * 2, none⟩) hb).trans x0
    have zl := Nat.lt_of_lt_of_le hb hbr.size
    have HBR := hide hbr
    have HLT := hide hlt
    have hlI : (k : Int) < (l.length : Int) := by omega
    have HC := hide (fun W (hW : Below wr.heap.size wr W) => hasInt_ref A c x.machines y.1 W (by omega) (HIw.out W ((HB1.out.trans (hbr.mono HB1.out.size)).trans (hW.mono (HB1.out.trans (hbr.mono HB1.out.size)).size))))
    clear hy HRB x0 x1 hb hbr
    have hB : ∀ b : Bool, b = false ∨ b = true := fun b => by cases b <;> simp
    rcases hB (decide (y.1 ∈ x.machines)) with hq | hq
    · rw [hq] at HC
      have HF := hide (find_at (p := fun u : UnitM => !decide (u.1 ∈ x.machines)) hlt (by rw [← HY.out]; simp at hq; simp [hq]) hs.out)
      go_wp2_with fail
      go_quiet ((go_at_call 26; exact quiet_left (HC.out _ (below_drawn (Below.refl _ _) _))))
      go_wp2_with fail
      go_ret2
      exact ⟨by rw [HEQ.out, HF.out, ← HY.out]; rfl, HB1.out.trans ((below_drawn HBR.out _).mono HB1.out.size)⟩
    · rw [hq] at HC
      have HQ := hide hq
      go_wp2_with fail
      go_quiet ((go_at_call 26; exact quiet_left (HC.out _ (below_drawn (Below.refl _ _) _))))
      go_wp2_with fail
      go_roundw
      case rel => exact ⟨k + 1, HLT.out, by go_num, below_drawn HBR.out _, fun j hj h1 => by
       rcases Nat.lt_or_ge j k with h2 | h2
       · exact hs.out j hj h2
       · obtain rfl : j = k := by omega
         rw [← HY.out]; simp only [HQ.out]; rfl⟩
      case measure => have := HLT.out; simp [intOf]; omega
  · have HF := hide (find_none (p := fun u : UnitM => !decide (u.1 ∈ x.machines)) fun j hj => hs.out j hj (by omega))
    obtain rfl : k = l.length := by omega
    go_wp2_with fail
    go_ret2
    exact ⟨by rw [HEQ.out, HF.out]; rfl, HB1.out.trans (hbr.mono HB1.out.size)⟩
structure CondR (w : World) (h : MH) (m : Mod) (x : RuleM) (A : Option Addr) (Ap : Option Addr) (p : PlaceM) : Prop where
 d : MD w w.heap.size h m
 i : Ints w w.heap.size A x.machines
 il : x.machines.length ≤ 9223372036854775807
 pr : PR w w.heap.size Ap p
 l : p.length ≤ 1000
 u : (unitsP p x.item).length ≤ 1000
 dm : domsI m x.by_ ≤ 100
theorem CondR.grow {w w' : World} {h : MH} {m : Mod} {x : RuleM} {A Ap : Option Addr} {p : PlaceM} (c : CondR w h m x A Ap p) (hb : Below w.heap.size w w') : CondR w' h m x A Ap p :=
 ⟨c.d.grow hb, c.i.grow hb, c.il, c.pr.grow hb, c.l, c.u, c.dm⟩
theorem Cond.rd {w : World} {h : MH} {m : Mod} {x : RuleM} {A Ap : Option Addr} {cp : Nat} {p : PlaceM} (c : Cond w h m x A Ap cp p) : CondR w h m x A Ap p := ⟨c.d, c.i, c.il, c.pt, c.l, c.u, c.dm⟩
theorem holdsR_0 (h : MH) (m : Mod) (x : RuleM) (A : Option Addr) (c : Nat) (Ap : Option Addr) (cp : Nat) (p : PlaceM) (f : Int × Int) (w : World) (C : CondR w h m x A Ap p) (g0 : (x.kind == 0) = true) :
    Calls Tryz.prog 12 #[.agg #[.slice h.s m.sT.length h.sc, .slice h.f m.fT.length h.fc, .slice h.r m.rT.length h.rc, .slice h.m m.mT.length h.mc, .slice h.l m.lT.length h.lc, .slice h.i m.iT.length h.ic, .int .i64 m.dT, .int .i64 m.oT, .int .i64 m.vT, .int .i64 m.aT, .slice h.u m.uT.length h.uc], .agg #[.int .i64 x.kind, .int .i64 x.item, .int .i64 x.other, .int .i64 x.n, .int .i64 x.by_, .bool x.always, .slice A x.machines.length c], .agg #[.slice Ap p.length cp], .agg #[.int .i64 f.1, .int .i64 f.2]] w (AnsB w (.bool (decide (((machinesP p x.item 0).length : Int) < 2 * ((survP m p f x.item).length : Int))))) := by
 have hs := S4.start w #[.slice h.s m.sT.length h.sc, .slice h.f m.fT.length h.fc, .slice h.r m.rT.length h.rc, .slice h.m m.mT.length h.mc, .slice h.l m.lT.length h.lc, .slice h.i m.iT.length h.ic, .int .i64 m.dT, .int .i64 m.oT, .int .i64 m.vT, .int .i64 m.aT, .slice h.u m.uT.length h.uc] #[.int .i64 x.kind, .int .i64 x.item, .int .i64 x.other, .int .i64 x.n, .int .i64 x.by_, .bool x.always, .slice A x.machines.length c] #[.slice Ap p.length cp] #[.int .i64 f.1, .int .i64 f.2]
 have HS := hide hs
 have HSU := hide (fun W (hW : Below w.heap.size w W) => survivors_ref h m Ap cp p f x.item W (C.grow hW).d (C.grow hW).pr C.l C.u)
 have HMA := hide (fun W (hW : Below w.heap.size w W) => machines_ref Ap cp p x.item 0 W (C.grow hW).pr C.l C.u)
 have z1 := Nat.le_trans (survP_len m p f x.item) (machinesP_len p x.item 0)
 have z2 := machinesP_len p x.item 0
 have zu := C.u
 obtain ⟨L1, h1⟩ : ∃ L, L = survP m p f x.item := ⟨_, rfl⟩
 obtain ⟨L2, h2⟩ : ∃ L, L = machinesP p x.item 0 := ⟨_, rfl⟩
 rw [← h1] at HSU z1 ⊢
 rw [← h2] at HMA z2 ⊢
 have y1 : L1.length ≤ 1000 := by omega
 have y2 : L2.length ≤ 1000 := by omega
 have hwr : IntKind.i64.wrap (2 * (L1.length : Int)) = 2 * (L1.length : Int) := by rw [IntKind.wrap_i64]; omega
 clear h1 h2 z1 z2 zu hs C
 go_enter Tryz.func12, Tryz.ntmps12
 go_wp2_with fail
 go_region_held3 (fun W => ((W.cell? ⟨w.heap.size, 0, none⟩ = some (.slice h.s m.sT.length h.sc) ∧ W.cell? ⟨w.heap.size, 1, none⟩ = some (.slice h.f m.fT.length h.fc) ∧ W.cell? ⟨w.heap.size, 2, none⟩ = some (.slice h.r m.rT.length h.rc) ∧ W.cell? ⟨w.heap.size, 3, none⟩ = some (.slice h.m m.mT.length h.mc) ∧ W.cell? ⟨w.heap.size, 4, none⟩ = some (.slice h.l m.lT.length h.lc) ∧ W.cell? ⟨w.heap.size, 5, none⟩ = some (.slice h.i m.iT.length h.ic) ∧ W.cell? ⟨w.heap.size, 6, none⟩ = some (.int .i64 m.dT) ∧ W.cell? ⟨w.heap.size, 7, none⟩ = some (.int .i64 m.oT) ∧ W.cell? ⟨w.heap.size, 8, none⟩ = some (.int .i64 m.vT) ∧ W.cell? ⟨w.heap.size, 9, none⟩ = some (.int .i64 m.aT) ∧ W.cell? ⟨w.heap.size, 10, none⟩ = some (.slice h.u m.uT.length h.uc)) ∧ (W.cell? ⟨w.heap.size + 1, 0, none⟩ = some (.int .i64 x.kind) ∧ W.cell? ⟨w.heap.size + 1, 1, none⟩ = some (.int .i64 x.item) ∧ W.cell? ⟨w.heap.size + 1, 2, none⟩ = some (.int .i64 x.other) ∧ W.cell? ⟨w.heap.size + 1, 3, none⟩ = some (.int .i64 x.n) ∧ W.cell? ⟨w.heap.size + 1, 4, none⟩ = some (.int .i64 x.by_) ∧ W.cell? ⟨w.heap.size + 1, 5, none⟩ = some (.bool x.always) ∧ W.cell? ⟨w.heap.size + 1, 6, none⟩ = some (.slice A x.machines.length c)) ∧ W.cell? ⟨w.heap.size + 1 + 1, 0, none⟩ = some (.slice Ap p.length cp) ∧ W.cell? ⟨w.heap.size + 1 + 1 + 1, 0, none⟩ = some (.int .i64 f.1) ∧ W.cell? ⟨w.heap.size + 1 + 1 + 1, 1, none⟩ = some (.int .i64 f.2)) ∧ S4 w #[.slice h.s m.sT.length h.sc, .slice h.f m.fT.length h.fc, .slice h.r m.rT.length h.rc, .slice h.m m.mT.length h.mc, .slice h.l m.lT.length h.lc, .slice h.i m.iT.length h.ic, .int .i64 m.dT, .int .i64 m.oT, .int .i64 m.vT, .int .i64 m.aT, .slice h.u m.uT.length h.uc] #[.int .i64 x.kind, .int .i64 x.item, .int .i64 x.other, .int .i64 x.n, .int .i64 x.by_, .bool x.always, .slice A x.machines.length c] #[.slice Ap p.length cp] #[.int .i64 f.1, .int .i64 f.2] W)
  ((with_reducible (first | (go_keep; done) | exact ⟨S4.cells HS.out.drew, HS.out.drew⟩ | exact ⟨S4.cells c7, c7⟩ | exact ⟨S4.cells c8, c8⟩ | (have hH := (by assumption : _ ∧ S4 _ _ _ _ _ _); exact ⟨S4.cells (S4.drew hH.2), S4.drew hH.2⟩))))
  ((first
    | (go_at_call 34; first
        | (have hH := (by assumption : _ ∧ S4 _ _ _ _ _ _); (with_reducible refine (HSU.out _ hH.2.b).mono ?_); rintro e w5 ⟨v5, rfl, ho5, hb5⟩; obtain ⟨A5, k5, rfl, _⟩ := ho5.form; have c7 := S4.grow hH.2 hb5; clear hH ho5)
        | (have hH := And.intro (S4.cells HS.out.drew) HS.out.drew; (with_reducible refine (HSU.out _ hH.2.b).mono ?_); rintro e w5 ⟨v5, rfl, ho5, hb5⟩; obtain ⟨A5, k5, rfl, _⟩ := ho5.form; have c7 := S4.grow hH.2 hb5; clear hH ho5))
    | (go_at_call 35; first
        | (have hH := (by assumption : _ ∧ S4 _ _ _ _ _ _); (with_reducible refine (HMA.out _ hH.2.b).mono ?_); rintro e w6 ⟨v6, rfl, ho6, hb6⟩; obtain ⟨A6, k6, rfl, _⟩ := ho6.form; have c8 := S4.grow hH.2 hb6; clear hH ho6)
        | (have hH := And.intro c7 c7; (with_reducible refine (HMA.out _ hH.2.b).mono ?_); rintro e w6 ⟨v6, rfl, ho6, hb6⟩; obtain ⟨A6, k6, rfl, _⟩ := ho6.form; have c8 := S4.grow hH.2 hb6; clear hH ho6))))
 all_goals
  go_wp2_with fail
  go_ret
  exact ⟨rfl, c8.b⟩
theorem S4.cellsF {w : World} {h : MH} {m : Mod} {x : RuleM} {A Ap : Option Addr} {c cp : Nat} {p : PlaceM} {f : Int × Int} {W : World} (s : S4 w #[.slice h.s m.sT.length h.sc, .slice h.f m.fT.length h.fc, .slice h.r m.rT.length h.rc, .slice h.m m.mT.length h.mc, .slice h.l m.lT.length h.lc, .slice h.i m.iT.length h.ic, .int .i64 m.dT, .int .i64 m.oT, .int .i64 m.vT, .int .i64 m.aT, .slice h.u m.uT.length h.uc] #[.int .i64 x.kind, .int .i64 x.item, .int .i64 x.other, .int .i64 x.n, .int .i64 x.by_, .bool false, .slice A x.machines.length c] #[.slice Ap p.length cp] #[.int .i64 f.1, .int .i64 f.2] W) : (W.cell? ⟨w.heap.size, 0, none⟩ = some (.slice h.s m.sT.length h.sc) ∧ W.cell? ⟨w.heap.size, 1, none⟩ = some (.slice h.f m.fT.length h.fc) ∧ W.cell? ⟨w.heap.size, 2, none⟩ = some (.slice h.r m.rT.length h.rc) ∧ W.cell? ⟨w.heap.size, 3, none⟩ = some (.slice h.m m.mT.length h.mc) ∧ W.cell? ⟨w.heap.size, 4, none⟩ = some (.slice h.l m.lT.length h.lc) ∧ W.cell? ⟨w.heap.size, 5, none⟩ = some (.slice h.i m.iT.length h.ic) ∧ W.cell? ⟨w.heap.size, 6, none⟩ = some (.int .i64 m.dT) ∧ W.cell? ⟨w.heap.size, 7, none⟩ = some (.int .i64 m.oT) ∧ W.cell? ⟨w.heap.size, 8, none⟩ = some (.int .i64 m.vT) ∧ W.cell? ⟨w.heap.size, 9, none⟩ = some (.int .i64 m.aT) ∧ W.cell? ⟨w.heap.size, 10, none⟩ = some (.slice h.u m.uT.length h.uc)) ∧ (W.cell? ⟨w.heap.size + 1, 0, none⟩ = some (.int .i64 x.kind) ∧ W.cell? ⟨w.heap.size + 1, 1, none⟩ = some (.int .i64 x.item) ∧ W.cell? ⟨w.heap.size + 1, 2, none⟩ = some (.int .i64 x.other) ∧ W.cell? ⟨w.heap.size + 1, 3, none⟩ = some (.int .i64 x.n) ∧ W.cell? ⟨w.heap.size + 1, 4, none⟩ = some (.int .i64 x.by_) ∧ W.cell? ⟨w.heap.size + 1, 5, none⟩ = some (.bool false) ∧ W.cell? ⟨w.heap.size + 1, 6, none⟩ = some (.slice A x.machines.length c)) ∧ W.cell? ⟨w.heap.size + 1 + 1, 0, none⟩ = some (.slice Ap p.length cp) ∧ W.cell? ⟨w.heap.size + 1 + 1 + 1, 0, none⟩ = some (.int .i64 f.1) ∧ W.cell? ⟨w.heap.size + 1 + 1 + 1, 1, none⟩ = some (.int .i64 f.2) :=
 ⟨MB.cells s.m, ⟨s.x.cell 0, s.x.cell 1, s.x.cell 2, s.x.cell 3, s.x.cell 4, s.x.cell 5, s.x.cell 6⟩, s.p.cell 0, s.f.cell 0, s.f.cell 1⟩
theorem S4.cellsT {w : World} {h : MH} {m : Mod} {x : RuleM} {A Ap : Option Addr} {c cp : Nat} {p : PlaceM} {W : World} (s : S4 w #[.slice h.s m.sT.length h.sc, .slice h.f m.fT.length h.fc, .slice h.r m.rT.length h.rc, .slice h.m m.mT.length h.mc, .slice h.l m.lT.length h.lc, .slice h.i m.iT.length h.ic, .int .i64 m.dT, .int .i64 m.oT, .int .i64 m.vT, .int .i64 m.aT, .slice h.u m.uT.length h.uc] #[.int .i64 x.kind, .int .i64 x.item, .int .i64 x.other, .int .i64 x.n, .int .i64 x.by_, .bool true, .slice A x.machines.length c] #[.slice Ap p.length cp] #[.int .i64 0, .int .i64 0] W) : (W.cell? ⟨w.heap.size, 0, none⟩ = some (.slice h.s m.sT.length h.sc) ∧ W.cell? ⟨w.heap.size, 1, none⟩ = some (.slice h.f m.fT.length h.fc) ∧ W.cell? ⟨w.heap.size, 2, none⟩ = some (.slice h.r m.rT.length h.rc) ∧ W.cell? ⟨w.heap.size, 3, none⟩ = some (.slice h.m m.mT.length h.mc) ∧ W.cell? ⟨w.heap.size, 4, none⟩ = some (.slice h.l m.lT.length h.lc) ∧ W.cell? ⟨w.heap.size, 5, none⟩ = some (.slice h.i m.iT.length h.ic) ∧ W.cell? ⟨w.heap.size, 6, none⟩ = some (.int .i64 m.dT) ∧ W.cell? ⟨w.heap.size, 7, none⟩ = some (.int .i64 m.oT) ∧ W.cell? ⟨w.heap.size, 8, none⟩ = some (.int .i64 m.vT) ∧ W.cell? ⟨w.heap.size, 9, none⟩ = some (.int .i64 m.aT) ∧ W.cell? ⟨w.heap.size, 10, none⟩ = some (.slice h.u m.uT.length h.uc)) ∧ (W.cell? ⟨w.heap.size + 1, 0, none⟩ = some (.int .i64 x.kind) ∧ W.cell? ⟨w.heap.size + 1, 1, none⟩ = some (.int .i64 x.item) ∧ W.cell? ⟨w.heap.size + 1, 2, none⟩ = some (.int .i64 x.other) ∧ W.cell? ⟨w.heap.size + 1, 3, none⟩ = some (.int .i64 x.n) ∧ W.cell? ⟨w.heap.size + 1, 4, none⟩ = some (.int .i64 x.by_) ∧ W.cell? ⟨w.heap.size + 1, 5, none⟩ = some (.bool true) ∧ W.cell? ⟨w.heap.size + 1, 6, none⟩ = some (.slice A x.machines.length c)) ∧ W.cell? ⟨w.heap.size + 1 + 1, 0, none⟩ = some (.slice Ap p.length cp) ∧ W.cell? ⟨w.heap.size + 1 + 1 + 1, 0, none⟩ = some (.int .i64 0) ∧ W.cell? ⟨w.heap.size + 1 + 1 + 1, 1, none⟩ = some (.int .i64 0) :=
 ⟨MB.cells s.m, ⟨s.x.cell 0, s.x.cell 1, s.x.cell 2, s.x.cell 3, s.x.cell 4, s.x.cell 5, s.x.cell 6⟩, s.p.cell 0, s.f.cell 0, s.f.cell 1⟩
theorem holdsR_1f (h : MH) (m : Mod) (x : RuleM) (A : Option Addr) (c : Nat) (Ap : Option Addr) (cp : Nat) (p : PlaceM) (f : Int × Int) (w : World) (C : CondR w h m x A Ap p) (g0 : (x.kind == 0) = false) (g1 : (x.kind == 1) = true) (hal : x.always = false) :
    Calls Tryz.prog 12 #[.agg #[.slice h.s m.sT.length h.sc, .slice h.f m.fT.length h.fc, .slice h.r m.rT.length h.rc, .slice h.m m.mT.length h.mc, .slice h.l m.lT.length h.lc, .slice h.i m.iT.length h.ic, .int .i64 m.dT, .int .i64 m.oT, .int .i64 m.vT, .int .i64 m.aT, .slice h.u m.uT.length h.uc], .agg #[.int .i64 x.kind, .int .i64 x.item, .int .i64 x.other, .int .i64 x.n, .int .i64 x.by_, .bool x.always, .slice A x.machines.length c], .agg #[.slice Ap p.length cp], .agg #[.int .i64 f.1, .int .i64 f.2]] w (AnsB w (.bool (decide (x.n ≤ ((survP m p f x.item).length : Int))))) := by
 have HS := hide (S4.start w #[.slice h.s m.sT.length h.sc, .slice h.f m.fT.length h.fc, .slice h.r m.rT.length h.rc, .slice h.m m.mT.length h.mc, .slice h.l m.lT.length h.lc, .slice h.i m.iT.length h.ic, .int .i64 m.dT, .int .i64 m.oT, .int .i64 m.vT, .int .i64 m.aT, .slice h.u m.uT.length h.uc] #[.int .i64 x.kind, .int .i64 x.item, .int .i64 x.other, .int .i64 x.n, .int .i64 x.by_, .bool x.always, .slice A x.machines.length c] #[.slice Ap p.length cp] #[.int .i64 f.1, .int .i64 f.2])
 have HSU := hide (fun W (hW : Below w.heap.size w W) => survivors_ref h m Ap cp p f x.item W (C.grow hW).d (C.grow hW).pr C.l C.u)
 have z1 := Nat.le_trans (survP_len m p f x.item) (machinesP_len p x.item 0)
 have zu := C.u
 obtain ⟨L1, h1⟩ : ∃ L, L = survP m p f x.item := ⟨_, rfl⟩
 rw [← h1] at HSU z1 ⊢
 have y1 : L1.length ≤ 1000 := by omega
 simp only [hal] at HS ⊢
 clear h1 z1 zu C hal
 go_enter Tryz.func12, Tryz.ntmps12
 go_wp2_with fail
 go_region_held3 (fun W => ((W.cell? ⟨w.heap.size, 0, none⟩ = some (.slice h.s m.sT.length h.sc) ∧ W.cell? ⟨w.heap.size, 1, none⟩ = some (.slice h.f m.fT.length h.fc) ∧ W.cell? ⟨w.heap.size, 2, none⟩ = some (.slice h.r m.rT.length h.rc) ∧ W.cell? ⟨w.heap.size, 3, none⟩ = some (.slice h.m m.mT.length h.mc) ∧ W.cell? ⟨w.heap.size, 4, none⟩ = some (.slice h.l m.lT.length h.lc) ∧ W.cell? ⟨w.heap.size, 5, none⟩ = some (.slice h.i m.iT.length h.ic) ∧ W.cell? ⟨w.heap.size, 6, none⟩ = some (.int .i64 m.dT) ∧ W.cell? ⟨w.heap.size, 7, none⟩ = some (.int .i64 m.oT) ∧ W.cell? ⟨w.heap.size, 8, none⟩ = some (.int .i64 m.vT) ∧ W.cell? ⟨w.heap.size, 9, none⟩ = some (.int .i64 m.aT) ∧ W.cell? ⟨w.heap.size, 10, none⟩ = some (.slice h.u m.uT.length h.uc)) ∧ (W.cell? ⟨w.heap.size + 1, 0, none⟩ = some (.int .i64 x.kind) ∧ W.cell? ⟨w.heap.size + 1, 1, none⟩ = some (.int .i64 x.item) ∧ W.cell? ⟨w.heap.size + 1, 2, none⟩ = some (.int .i64 x.other) ∧ W.cell? ⟨w.heap.size + 1, 3, none⟩ = some (.int .i64 x.n) ∧ W.cell? ⟨w.heap.size + 1, 4, none⟩ = some (.int .i64 x.by_) ∧ W.cell? ⟨w.heap.size + 1, 5, none⟩ = some (.bool false) ∧ W.cell? ⟨w.heap.size + 1, 6, none⟩ = some (.slice A x.machines.length c)) ∧ W.cell? ⟨w.heap.size + 1 + 1, 0, none⟩ = some (.slice Ap p.length cp) ∧ W.cell? ⟨w.heap.size + 1 + 1 + 1, 0, none⟩ = some (.int .i64 f.1) ∧ W.cell? ⟨w.heap.size + 1 + 1 + 1, 1, none⟩ = some (.int .i64 f.2)) ∧ S4 w #[.slice h.s m.sT.length h.sc, .slice h.f m.fT.length h.fc, .slice h.r m.rT.length h.rc, .slice h.m m.mT.length h.mc, .slice h.l m.lT.length h.lc, .slice h.i m.iT.length h.ic, .int .i64 m.dT, .int .i64 m.oT, .int .i64 m.vT, .int .i64 m.aT, .slice h.u m.uT.length h.uc] #[.int .i64 x.kind, .int .i64 x.item, .int .i64 x.other, .int .i64 x.n, .int .i64 x.by_, .bool false, .slice A x.machines.length c] #[.slice Ap p.length cp] #[.int .i64 f.1, .int .i64 f.2] W)
  ((with_reducible (first | (go_keep; done) | exact ⟨S4.cellsF HS.out.drew, HS.out.drew⟩ | exact ⟨S4.cellsF c7, c7⟩ | (have hH := (by assumption : _ ∧ S4 _ _ _ _ _ _); exact ⟨S4.cellsF (S4.drew hH.2), S4.drew hH.2⟩))))
  ((go_at_call 34; have hH := And.intro (S4.cellsF HS.out.drew) HS.out.drew; (with_reducible refine (HSU.out _ hH.2.b).mono ?_); rintro e w5 ⟨v5, rfl, ho5, hb5⟩; obtain ⟨A5, k5, rfl, _⟩ := ho5.form; have c7 := S4.grow hH.2 hb5; clear hH ho5))
 all_goals
  go_wp2_with fail
  go_ret
  exact ⟨rfl, c7.b⟩
theorem holdsR_1t (h : MH) (m : Mod) (x : RuleM) (A : Option Addr) (c : Nat) (Ap : Option Addr) (cp : Nat) (p : PlaceM) (f : Int × Int) (w : World) (C : CondR w h m x A Ap p) (g0 : (x.kind == 0) = false) (g1 : (x.kind == 1) = true) (hal : x.always = true) :
    Calls Tryz.prog 12 #[.agg #[.slice h.s m.sT.length h.sc, .slice h.f m.fT.length h.fc, .slice h.r m.rT.length h.rc, .slice h.m m.mT.length h.mc, .slice h.l m.lT.length h.lc, .slice h.i m.iT.length h.ic, .int .i64 m.dT, .int .i64 m.oT, .int .i64 m.vT, .int .i64 m.aT, .slice h.u m.uT.length h.uc], .agg #[.int .i64 x.kind, .int .i64 x.item, .int .i64 x.other, .int .i64 x.n, .int .i64 x.by_, .bool x.always, .slice A x.machines.length c], .agg #[.slice Ap p.length cp], .agg #[.int .i64 f.1, .int .i64 f.2]] w (AnsB w (.bool (decide (x.n ≤ ((survP m p (0, 0) x.item).length : Int))))) := by
 have HS := hide (S4.start w #[.slice h.s m.sT.length h.sc, .slice h.f m.fT.length h.fc, .slice h.r m.rT.length h.rc, .slice h.m m.mT.length h.mc, .slice h.l m.lT.length h.lc, .slice h.i m.iT.length h.ic, .int .i64 m.dT, .int .i64 m.oT, .int .i64 m.vT, .int .i64 m.aT, .slice h.u m.uT.length h.uc] #[.int .i64 x.kind, .int .i64 x.item, .int .i64 x.other, .int .i64 x.n, .int .i64 x.by_, .bool x.always, .slice A x.machines.length c] #[.slice Ap p.length cp] #[.int .i64 0, .int .i64 0])
 have HSU := hide (fun W (hW : Below w.heap.size w W) => survivors_ref h m Ap cp p (0, 0) x.item W (C.grow hW).d (C.grow hW).pr C.l C.u)
 have z1 := Nat.le_trans (survP_len m p (0, 0) x.item) (machinesP_len p x.item 0)
 have zu := C.u
 obtain ⟨L1, h1⟩ : ∃ L, L = survP m p (0, 0) x.item := ⟨_, rfl⟩
 rw [← h1] at HSU z1 ⊢
 have y1 : L1.length ≤ 1000 := by omega
 simp only [hal] at HS ⊢
 clear h1 z1 zu C hal
 go_enter Tryz.func12, Tryz.ntmps12
 go_wp2_with fail
 go_region_held3 (fun W => ((W.cell? ⟨w.heap.size, 0, none⟩ = some (.slice h.s m.sT.length h.sc) ∧ W.cell? ⟨w.heap.size, 1, none⟩ = some (.slice h.f m.fT.length h.fc) ∧ W.cell? ⟨w.heap.size, 2, none⟩ = some (.slice h.r m.rT.length h.rc) ∧ W.cell? ⟨w.heap.size, 3, none⟩ = some (.slice h.m m.mT.length h.mc) ∧ W.cell? ⟨w.heap.size, 4, none⟩ = some (.slice h.l m.lT.length h.lc) ∧ W.cell? ⟨w.heap.size, 5, none⟩ = some (.slice h.i m.iT.length h.ic) ∧ W.cell? ⟨w.heap.size, 6, none⟩ = some (.int .i64 m.dT) ∧ W.cell? ⟨w.heap.size, 7, none⟩ = some (.int .i64 m.oT) ∧ W.cell? ⟨w.heap.size, 8, none⟩ = some (.int .i64 m.vT) ∧ W.cell? ⟨w.heap.size, 9, none⟩ = some (.int .i64 m.aT) ∧ W.cell? ⟨w.heap.size, 10, none⟩ = some (.slice h.u m.uT.length h.uc)) ∧ (W.cell? ⟨w.heap.size + 1, 0, none⟩ = some (.int .i64 x.kind) ∧ W.cell? ⟨w.heap.size + 1, 1, none⟩ = some (.int .i64 x.item) ∧ W.cell? ⟨w.heap.size + 1, 2, none⟩ = some (.int .i64 x.other) ∧ W.cell? ⟨w.heap.size + 1, 3, none⟩ = some (.int .i64 x.n) ∧ W.cell? ⟨w.heap.size + 1, 4, none⟩ = some (.int .i64 x.by_) ∧ W.cell? ⟨w.heap.size + 1, 5, none⟩ = some (.bool true) ∧ W.cell? ⟨w.heap.size + 1, 6, none⟩ = some (.slice A x.machines.length c)) ∧ W.cell? ⟨w.heap.size + 1 + 1, 0, none⟩ = some (.slice Ap p.length cp) ∧ W.cell? ⟨w.heap.size + 1 + 1 + 1, 0, none⟩ = some (.int .i64 0) ∧ W.cell? ⟨w.heap.size + 1 + 1 + 1, 1, none⟩ = some (.int .i64 0)) ∧ S4 w #[.slice h.s m.sT.length h.sc, .slice h.f m.fT.length h.fc, .slice h.r m.rT.length h.rc, .slice h.m m.mT.length h.mc, .slice h.l m.lT.length h.lc, .slice h.i m.iT.length h.ic, .int .i64 m.dT, .int .i64 m.oT, .int .i64 m.vT, .int .i64 m.aT, .slice h.u m.uT.length h.uc] #[.int .i64 x.kind, .int .i64 x.item, .int .i64 x.other, .int .i64 x.n, .int .i64 x.by_, .bool true, .slice A x.machines.length c] #[.slice Ap p.length cp] #[.int .i64 0, .int .i64 0] W)
  ((with_reducible (first | (go_keep; done) | exact ⟨S4.cellsT HS.out.drew, HS.out.drew⟩ | exact ⟨S4.cellsT c7, c7⟩ | (have hH := (by assumption : _ ∧ S4 _ _ _ _ _ _); exact ⟨S4.cellsT (S4.drew hH.2), S4.drew hH.2⟩))))
  ((go_at_call 34; have hH := And.intro (S4.cellsT HS.out.drew) HS.out.drew; (with_reducible refine (HSU.out _ hH.2.b).mono ?_); rintro e w5 ⟨v5, rfl, ho5, hb5⟩; obtain ⟨A5, k5, rfl, _⟩ := ho5.form; have c7 := S4.grow hH.2 hb5; clear hH ho5))
 all_goals
  go_wp2_with fail
  go_ret
  exact ⟨rfl, c7.b⟩
theorem holdsR_2 (h : MH) (m : Mod) (x : RuleM) (A : Option Addr) (c : Nat) (Ap : Option Addr) (cp : Nat) (p : PlaceM) (f : Int × Int) (w : World) (C : CondR w h m x A Ap p) (g0 : (x.kind == 0) = false) (g1 : (x.kind == 1) = false) (g2 : (x.kind == 2) = true) :
    Calls Tryz.prog 12 #[.agg #[.slice h.s m.sT.length h.sc, .slice h.f m.fT.length h.fc, .slice h.r m.rT.length h.rc, .slice h.m m.mT.length h.mc, .slice h.l m.lT.length h.lc, .slice h.i m.iT.length h.ic, .int .i64 m.dT, .int .i64 m.oT, .int .i64 m.vT, .int .i64 m.aT, .slice h.u m.uT.length h.uc], .agg #[.int .i64 x.kind, .int .i64 x.item, .int .i64 x.other, .int .i64 x.n, .int .i64 x.by_, .bool x.always, .slice A x.machines.length c], .agg #[.slice Ap p.length cp], .agg #[.int .i64 f.1, .int .i64 f.2]] w (AnsB w (.bool (crowdedI m x p == 0))) := by
 have HS := hide (S4.start w #[.slice h.s m.sT.length h.sc, .slice h.f m.fT.length h.fc, .slice h.r m.rT.length h.rc, .slice h.m m.mT.length h.mc, .slice h.l m.lT.length h.lc, .slice h.i m.iT.length h.ic, .int .i64 m.dT, .int .i64 m.oT, .int .i64 m.vT, .int .i64 m.aT, .slice h.u m.uT.length h.uc] #[.int .i64 x.kind, .int .i64 x.item, .int .i64 x.other, .int .i64 x.n, .int .i64 x.by_, .bool x.always, .slice A x.machines.length c] #[.slice Ap p.length cp] #[.int .i64 f.1, .int .i64 f.2])
 have HC := hide (crowded_ref h m x A c Ap cp p _ (C.grow HS.out.b).d (C.grow HS.out.b).pr C.l C.u C.dm)
 obtain ⟨v, hv⟩ : ∃ v, v = crowdedI m x p := ⟨_, rfl⟩
 rw [← hv] at HC ⊢
 clear hv C
 go_enter Tryz.func12, Tryz.ntmps12
 go_wp2_with (go_at_call 36; refine HC.out.mono ?_; rintro e w1 ⟨rfl, hb1⟩)
 go_ret
 exact ⟨rfl, HS.out.b.trans (hb1.mono HS.out.b.size)⟩
theorem holdsR_3 (h : MH) (m : Mod) (x : RuleM) (A : Option Addr) (c : Nat) (Ap : Option Addr) (cp : Nat) (p : PlaceM) (f : Int × Int) (w : World) (C : CondR w h m x A Ap p) (g0 : (x.kind == 0) = false) (g1 : (x.kind == 1) = false) (g2 : (x.kind == 2) = false) (g3 : (x.kind == 3) = true) :
    Calls Tryz.prog 12 #[.agg #[.slice h.s m.sT.length h.sc, .slice h.f m.fT.length h.fc, .slice h.r m.rT.length h.rc, .slice h.m m.mT.length h.mc, .slice h.l m.lT.length h.lc, .slice h.i m.iT.length h.ic, .int .i64 m.dT, .int .i64 m.oT, .int .i64 m.vT, .int .i64 m.aT, .slice h.u m.uT.length h.uc], .agg #[.int .i64 x.kind, .int .i64 x.item, .int .i64 x.other, .int .i64 x.n, .int .i64 x.by_, .bool x.always, .slice A x.machines.length c], .agg #[.slice Ap p.length cp], .agg #[.int .i64 f.1, .int .i64 f.2]] w (AnsB w (.bool (elsewhereI x p).isNone)) := by
 have HS := hide (S4.start w #[.slice h.s m.sT.length h.sc, .slice h.f m.fT.length h.fc, .slice h.r m.rT.length h.rc, .slice h.m m.mT.length h.mc, .slice h.l m.lT.length h.lc, .slice h.i m.iT.length h.ic, .int .i64 m.dT, .int .i64 m.oT, .int .i64 m.vT, .int .i64 m.aT, .slice h.u m.uT.length h.uc] #[.int .i64 x.kind, .int .i64 x.item, .int .i64 x.other, .int .i64 x.n, .int .i64 x.by_, .bool x.always, .slice A x.machines.length c] #[.slice Ap p.length cp] #[.int .i64 f.1, .int .i64 f.2])
 have HC := hide (elsewhere_ref x A c Ap cp p _ (C.grow HS.out.b).pr C.l C.u (C.grow HS.out.b).i C.il)
 obtain ⟨v, hv⟩ : ∃ v, v = elsewhereI x p := ⟨_, rfl⟩
 rw [← hv] at HC ⊢
 clear hv C
 go_enter Tryz.func12, Tryz.ntmps12
 go_wp2_with (go_at_call 37; refine HC.out.mono ?_; rintro e w1 ⟨rfl, hb1⟩)
 go_ret
 exact ⟨rfl, HS.out.b.trans (hb1.mono HS.out.b.size)⟩
theorem holdsR_o (h : MH) (m : Mod) (x : RuleM) (A : Option Addr) (c : Nat) (Ap : Option Addr) (cp : Nat) (p : PlaceM) (f : Int × Int) (w : World) (g0 : (x.kind == 0) = false) (g1 : (x.kind == 1) = false) (g2 : (x.kind == 2) = false) (g3 : (x.kind == 3) = false) :
    Calls Tryz.prog 12 #[.agg #[.slice h.s m.sT.length h.sc, .slice h.f m.fT.length h.fc, .slice h.r m.rT.length h.rc, .slice h.m m.mT.length h.mc, .slice h.l m.lT.length h.lc, .slice h.i m.iT.length h.ic, .int .i64 m.dT, .int .i64 m.oT, .int .i64 m.vT, .int .i64 m.aT, .slice h.u m.uT.length h.uc], .agg #[.int .i64 x.kind, .int .i64 x.item, .int .i64 x.other, .int .i64 x.n, .int .i64 x.by_, .bool x.always, .slice A x.machines.length c], .agg #[.slice Ap p.length cp], .agg #[.int .i64 f.1, .int .i64 f.2]] w (AnsB w (.bool true)) := by
 have HS := hide (S4.start w #[.slice h.s m.sT.length h.sc, .slice h.f m.fT.length h.fc, .slice h.r m.rT.length h.rc, .slice h.m m.mT.length h.mc, .slice h.l m.lT.length h.lc, .slice h.i m.iT.length h.ic, .int .i64 m.dT, .int .i64 m.oT, .int .i64 m.vT, .int .i64 m.aT, .slice h.u m.uT.length h.uc] #[.int .i64 x.kind, .int .i64 x.item, .int .i64 x.other, .int .i64 x.n, .int .i64 x.by_, .bool x.always, .slice A x.machines.length c] #[.slice Ap p.length cp] #[.int .i64 f.1, .int .i64 f.2])
 go_enter Tryz.func12, Tryz.ntmps12
 go_wp2_with fail
 go_ret
 exact ⟨rfl, HS.out.b⟩
theorem holds22_ref (h : MH) (m : Mod) (x : RuleM) (A : Option Addr) (c : Nat) (Ap : Option Addr) (cp : Nat) (p : PlaceM) (f : Int × Int) (w : World) (C : CondR w h m x A Ap p) :
    Calls Tryz.prog 12 #[.agg #[.slice h.s m.sT.length h.sc, .slice h.f m.fT.length h.fc, .slice h.r m.rT.length h.rc, .slice h.m m.mT.length h.mc, .slice h.l m.lT.length h.lc, .slice h.i m.iT.length h.ic, .int .i64 m.dT, .int .i64 m.oT, .int .i64 m.vT, .int .i64 m.aT, .slice h.u m.uT.length h.uc], .agg #[.int .i64 x.kind, .int .i64 x.item, .int .i64 x.other, .int .i64 x.n, .int .i64 x.by_, .bool x.always, .slice A x.machines.length c], .agg #[.slice Ap p.length cp], .agg #[.int .i64 f.1, .int .i64 f.2]] w (AnsB w (.bool (holdsR m x p f))) := by
 unfold holdsR
 by_cases h0 : x.kind = 0
 · rw [if_pos h0, show decide ((machinesP p x.item 0).length < 2 * (survP m p f x.item).length) = decide (((machinesP p x.item 0).length : Int) < 2 * ((survP m p f x.item).length : Int)) by rw [decide_eq_decide]; omega]; exact holdsR_0 h m x A c Ap cp p f w C (by simpa using h0)
 rw [if_neg h0]
 by_cases h1 : x.kind = 1
 · rw [if_pos h1]
   cases hal : x.always
   · have := holdsR_1f h m x A c Ap cp p f w C (by simpa using h0) (by simpa using h1) hal
     simpa [hal] using this
   · have := holdsR_1t h m x A c Ap cp p f w C (by simpa using h0) (by simpa using h1) hal
     simpa [hal] using this
 rw [if_neg h1]
 by_cases h2 : x.kind = 2
 · rw [if_pos h2, show decide (crowdedI m x p = 0) = (crowdedI m x p == 0) by rw [Bool.eq_iff_iff]; simp]
   exact holdsR_2 h m x A c Ap cp p f w C (by simpa using h0) (by simpa using h1) (by simpa using h2)
 rw [if_neg h2]
 by_cases h3 : x.kind = 3
 · rw [if_pos h3, show decide (elsewhereI x p = none) = (elsewhereI x p).isNone by cases elsewhereI x p <;> simp]
   exact holdsR_3 h m x A c Ap cp p f w C (by simpa using h0) (by simpa using h1) (by simpa using h2) (by simpa using h3)
 rw [if_neg h3]
 exact holdsR_o h m x A c Ap cp p f w (by simpa using h0) (by simpa using h1) (by simpa using h2) (by simpa using h3)
end Go.Proofs.YtlnjaemdelnceaaGreatDoor
