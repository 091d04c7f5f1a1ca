/- A part of the claim: see its last text. -/
import Derived.Test.YtlnjaemdelnceaaGreatDoorUK29
import Derived.Test.YtlnjaemdelnceaaGreatDoorUK06

set_option maxRecDepth 100000
set_option maxHeartbeats 16000000
namespace Go.Proofs.YtlnjaemdelnceaaGreatDoor
open Go Go.RowKit Go.Proofs
def finalOf (i : Nat) (L : List Int) (n : Nat) (cnt : Int) : Option (Int × Int) :=
 match L with
 | x :: _ => some ((i : Int) + 1, x)
 | [] => if (n : Int) = cnt then none else some ((i : Int) + 1, 0)
def finalAt (m : Mod) (p : PlaceM) (i : Nat) (x : ItemM) : Option (Int × Int) := finalOf i (darkP m p ((i : Int) + 1)) (machinesP p ((i : Int) + 1) 0).length x.count
def finalGo (m : Mod) (p : PlaceM) : Nat → List ItemM → Int × Int × Bool
 | _, [] => (0, 0, true)
 | i, x :: l => match finalAt m p i x with | some q => (q.1, q.2, false) | none => finalGo m p (i + 1) l
def finalM (m : Mod) (p : PlaceM) : Int × Int × Bool := finalGo m p 0 m.iT
theorem finalGo_at (m : Mod) (p : PlaceM) {k : Nat} (hk : k < m.iT.length) : finalGo m p k (m.iT.drop k) = match finalAt m p k m.iT[k] with | some q => (q.1, q.2, false) | none => finalGo m p (k + 1) (m.iT.drop (k + 1)) := by
 rw [List.drop_eq_getElem_cons hk, finalGo]
theorem finalGo_end (m : Mod) (p : PlaceM) : finalGo m p m.iT.length (m.iT.drop m.iT.length) = (0, 0, true) := by
 rw [List.drop_length, finalGo]
structure MPB (w : World) (M P : Array Value) (W : World) : Prop where
 m : Blk W w.heap.size 29 M
 p : Blk W (w.heap.size + 1) 35 P
 b : Below w.heap.size w W
theorem MPB.start (w : World) (M P : Array Value) : MPB w M P ((w.alloc (.cells M 29)).alloc (.cells P 35)) :=
 ⟨(Blk.new w _ M).alloc _, by simpa using Blk.new (w.alloc (.cells M 29)) 35 P, ((Below.refl _ _).alloc (Nat.le_refl _) _).alloc (by simp) _⟩
theorem MPB.drew {w : World} {M P : Array Value} {W : World} (s : MPB w M P W) : MPB w M P W.drew := ⟨s.m, s.p, s.b.drew⟩
theorem MPB.grow {w : World} {M P : Array Value} {W W2 : World} (s : MPB w M P W) (hb : Below W.heap.size W W2) : MPB w M P W2 := ⟨s.m.below hb s.m.lt, s.p.below hb s.p.lt, s.b.trans (hb.mono s.b.size)⟩
def FnX (w : World) (M P : Array Value) (bx : Nat) (n : Int) (W : World) : Prop := MPB w M P W ∧ W.cell? ⟨bx, 2, none⟩ = some (.int .i64 n) ∧ bx < W.heap.size
theorem FnX.drew {w : World} {M P : Array Value} {bx : Nat} {n : Int} {W : World} (s : FnX w M P bx n W) : FnX w M P bx n W.drew := ⟨s.1.drew, s.2.1, s.2.2⟩
theorem FnX.grow {w : World} {M P : Array Value} {bx : Nat} {n : Int} {W W2 : World} (s : FnX w M P bx n W) (hb : Below W.heap.size W W2) : FnX w M P bx n W2 := ⟨s.1.grow hb, (hb.cell (p := ⟨bx, 2, none⟩) s.2.2).trans s.2.1, Nat.lt_of_lt_of_le s.2.2 hb.size⟩
theorem FnX.cells {w : World} {M : Array Value} {A : Option Addr} {k c : Nat} {bx : Nat} {n : Int} {W : World} (s : FnX w M #[.slice A k c] bx n W) : W.cell? ⟨w.heap.size + 1, 0, none⟩ = some (.slice A k c) ∧ W.cell? ⟨bx, 2, none⟩ = some (.int .i64 n) := ⟨s.1.p.cell 0, s.2.1⟩
def FnI (m : Mod) (p : PlaceM) (w : World) (M P : Array Value) (i : Value) (wr : World) : Prop := ∃ k : Nat, k ≤ m.iT.length ∧ i = .int .i64 k ∧ Hid (finalM m p = finalGo m p k (m.iT.drop k)) ∧ Hid (MPB w M P wr)
theorem final_prog (h : MH) (m : Mod) (Ap : Option Addr) (cp : Nat) (p : PlaceM) (w : World) (d : MD w w.heap.size h m) (hp : PR w w.heap.size Ap p) (hil : m.iT.length ≤ 1000) (hl : p.length ≤ 1000) (hul : ∀ i, (unitsP p i).length ≤ 1000) :
    Calls Tryz.prog 19 #[.agg #[.slice h.s m.sT.length h.sc, .slice h.f m.fT.length h.fc, .slice h.r m.rT.length h.rc, .slice h.m m.mT.length h.mc, .slice h.l m.lT.length h.lc, .slice h.i m.iT.length h.ic, .int .i64 m.dT, .int .i64 m.oT, .int .i64 m.vT, .int .i64 m.aT, .slice h.u m.uT.length h.uc], .agg #[.slice Ap p.length cp]] w (AnsR w (.tuple #[.int .i64 (finalM m p).1, .int .i64 (finalM m p).2.1, .bool (finalM m p).2.2])) := by
 have HS := hide (MPB.start w #[.slice h.s m.sT.length h.sc, .slice h.f m.fT.length h.fc, .slice h.r m.rT.length h.rc, .slice h.m m.mT.length h.mc, .slice h.l m.lT.length h.lc, .slice h.i m.iT.length h.ic, .int .i64 m.dT, .int .i64 m.oT, .int .i64 m.vT, .int .i64 m.aT, .slice h.u m.uT.length h.uc] #[.slice Ap p.length cp])
 have HD := hide (fun W (hW : Below w.heap.size w W) => d.grow hW)
 have HDK := hide (fun W (hW : Below w.heap.size w W) i => rdark_prog h m Ap cp p i W (d.grow hW) (hp.grow hW) hl (hul i))
 have HM := hide (fun W (hW : Below w.heap.size w W) i => pmachines_prog Ap cp p i 0 W (hp.grow hW) hl (hul i))
 have HUL := hide hul
 have H0 := hide (show finalM m p = finalGo m p 0 (m.iT.drop 0) from rfl)
 clear d hp hul
 go_enter Tryz.func19, Tryz.ntmps19
 go_wp2_with fail
 go_loopw [13] (fun i wr => FnI m p w #[.slice h.s m.sT.length h.sc, .slice h.f m.fT.length h.fc, .slice h.r m.rT.length h.rc, .slice h.m m.mT.length h.mc, .slice h.l m.lT.length h.lc, .slice h.i m.iT.length h.ic, .int .i64 m.dT, .int .i64 m.oT, .int .i64 m.vT, .int .i64 m.aT, .slice h.u m.uT.length h.uc] #[.slice Ap p.length cp] i wr) (fun i _ => m.iT.length - (intOf i).toNat)
 case atStart => exact ⟨0, Nat.zero_le _, rfl, H0, HS⟩
 case round =>
  clear H0 HS
  obtain ⟨k, hk, rfl, HF, HS⟩ := hrel
  by_cases hlt : k < m.iT.length
  · obtain ⟨bi, oi, Ai, ci, hA, hbi, i0, i1, i2, i3, i4, i5, i6, _, _, _, _⟩ := (HD.out wr HS.out.b).dI.item hlt
    rw [finalGo_at m p hlt] at HF
    obtain ⟨x, hx⟩ : ∃ x, x = m.iT[k] := ⟨_, rfl⟩
    rw [← hx] at i0 i1 i2 i3 i4 i5 i6 HF
    obtain ⟨L, hL⟩ : ∃ L, L = darkP m p ((k : Int) + 1) := ⟨_, rfl⟩
    obtain ⟨K, hK⟩ : ∃ K, K = machinesP p ((k : Int) + 1) 0 := ⟨_, rfl⟩
    have HFA := hide (show finalAt m p k x = finalOf k L K.length x.count by rw [hL, hK]; rfl)
    have hLl : L.length ≤ 1000 := by rw [hL]; have := darkP_len m p ((k : Int) + 1); have := HUL.out ((k : Int) + 1); omega
    have hKl : K.length ≤ 1000 := by rw [hK]; have := machinesP_len p ((k : Int) + 1) 0; have := HUL.out ((k : Int) + 1); omega
    obtain ⟨a0, a1, a2, a3, a4, a5, a6, a7, a8, a9, a10⟩ := MB.cells HS.out.m
    have p0 := HS.out.p.cell 0
    simp at p0
    have ml := HS.out.m.lt
    have pl := HS.out.p.lt
    have hkI : (k : Int) < (m.iT.length : Int) := by omega
    have hwk : IntKind.i64.wrap ((k : Int) + 1) = (k : Int) + 1 := by rw [IntKind.wrap_i64]; omega
    have HBX := hide ((Below.refl wr.heap.size wr).alloc (Nat.le_refl _) (.cells #[.string x.name, .int .i64 x.kind, .int .i64 x.count, .int .i64 x.load, .int .i64 x.size, .int .i64 x.share, .slice Ai x.on.length ci] 81))
    have HSX := hide (HS.out.grow HBX.out)
    have HX2 := hide (show (wr.alloc (.cells #[.string x.name, .int .i64 x.kind, .int .i64 x.count, .int .i64 x.load, .int .i64 x.size, .int .i64 x.share, .slice Ai x.on.length ci] 81)).cell? ⟨wr.heap.size, 2, none⟩ = some (.int .i64 x.count) from by simp)
    have HDK2 := hide (HDK.out _ HSX.out.b ((k : Int) + 1))
    rw [← hL] at HDK2
    rw [hA]
    have HA := hide hA
    clear hA hx hL
    cases L with
    | cons n L2 =>
      have g1 : decide (0 < (((n :: L2).length : Nat) : Int)) = true := by simp
      have HQ := hide (show finalM m p = ((k : Int) + 1, n, false) by rw [HF.out, HFA.out]; rfl)
      clear hK
      obtain ⟨T, hT⟩ : ∃ T, T = n :: L2 := ⟨_, rfl⟩
      have HTN := hide (show ∃ h0 : 0 < T.length, T[0] = n from by subst hT; exact ⟨by simp, rfl⟩)
      rw [← hT] at g1 HDK2 hLl
      clear hT
      go_wp2_with (go_at_call 41; (with_reducible refine HDK2.out.mono ?_); rintro e w1 ⟨v, rfl, ho, hb⟩; obtain ⟨A1, c1, rfl, hc1, hI⟩ := ho.form; obtain ⟨h0, hn⟩ := HTN.out; obtain ⟨b1, o1, hA1, hb1, z0⟩ := int_at hI h0; rw [hn] at z0; simp at z0; subst hA1; have hTI : (0 : Int) < (T.length : Int) := by omega
                   have HB1 := hide (HSX.out.b.trans (hb.mono HSX.out.b.size)); clear hb ho hI hn)
      go_quiet (fail)
      go_wp2_with fail
      go_ret3
      exact ⟨by rw [HQ.out]; rfl, below_drawn HB1.out _⟩
    | nil =>
      have g1 : decide (0 < ((([] : List Int).length : Nat) : Int)) = false := by simp
      have hB2 : ∀ b : Bool, b = false ∨ b = true := fun b => by cases b <;> simp
      have HMK := hide (fun W (hW : Below w.heap.size w W) => HM.out W hW ((k : Int) + 1))
      rw [← hK] at HMK
      have HFX := hide (show FnX w #[.slice h.s m.sT.length h.sc, .slice h.f m.fT.length h.fc, .slice h.r m.rT.length h.rc, .slice h.m m.mT.length h.mc, .slice h.l m.lT.length h.lc, .slice h.i m.iT.length h.ic, .int .i64 m.dT, .int .i64 m.oT, .int .i64 m.vT, .int .i64 m.aT, .slice h.u m.uT.length h.uc] #[.slice Ap p.length cp] wr.heap.size x.count _ from ⟨HSX.out, HX2.out, by simp⟩)
      rcases hB2 ((K.length : Int) != x.count) with g2 | g2
      · have HQ := hide (show finalM m p = finalGo m p (k + 1) (m.iT.drop (k + 1)) by rw [HF.out, HFA.out]; simp only [bne_eq_false_iff_eq] at g2; simp [finalOf, g2])
        clear hK
        go_wp2_with (go_at_call 41; (with_reducible refine HDK2.out.mono ?_); rintro e w1 ⟨v, rfl, ho, hb⟩; obtain ⟨A1, c1, rfl, hc1, hI⟩ := ho.form; have HS1 := hide (HFX.out.grow hb); clear hb ho hI)
        (go_region_held3 (fun W => (W.cell? ⟨w.heap.size + 1, 0, none⟩ = some (.slice Ap p.length cp) ∧ W.cell? ⟨wr.heap.size, 2, none⟩ = some (.int .i64 x.count)) ∧ FnX w #[.slice h.s m.sT.length h.sc, .slice h.f m.fT.length h.fc, .slice h.r m.rT.length h.rc, .slice h.m m.mT.length h.mc, .slice h.l m.lT.length h.lc, .slice h.i m.iT.length h.ic, .int .i64 m.dT, .int .i64 m.oT, .int .i64 m.vT, .int .i64 m.aT, .slice h.u m.uT.length h.uc] #[.slice Ap p.length cp] wr.heap.size x.count W) ((with_reducible (first | (go_keep; done) | exact ⟨FnX.cells HS1.out.drew, HS1.out.drew⟩ | exact ⟨FnX.cells c7, c7⟩ | (have hH := (by assumption : _ ∧ FnX _ _ _ _ _ _); exact ⟨FnX.cells (FnX.drew hH.2), FnX.drew hH.2⟩)))) ((go_at_call 42; have hbw := HS1.out.drew.1.b; (with_reducible refine (HMK.out _ hbw).mono ?_); rintro e w2 ⟨v2, rfl, ho2, hb2⟩; obtain ⟨A2, c2, rfl, _⟩ := ho2.form; have c7 := FnX.grow HS1.out.drew hb2; clear ho2 hb2)))
        all_goals
         go_wp2_with fail
         go_roundw
         case rel => exact ⟨k + 1, by omega, by go_num, HQ, by have h7 := c7.1; rw [HA.out] at h7; exact hide h7⟩
         case measure => simp [intOf]; omega
      · have HQ := hide (show finalM m p = ((k : Int) + 1, 0, false) by rw [HF.out, HFA.out]; simp only [bne_iff_ne] at g2; simp [finalOf, g2])
        clear hK
        go_wp2_with (go_at_call 41; (with_reducible refine HDK2.out.mono ?_); rintro e w1 ⟨v, rfl, ho, hb⟩; obtain ⟨A1, c1, rfl, hc1, hI⟩ := ho.form; have HS1 := hide (HFX.out.grow hb); clear hb ho hI)
        (go_region_held3 (fun W => (W.cell? ⟨w.heap.size + 1, 0, none⟩ = some (.slice Ap p.length cp) ∧ W.cell? ⟨wr.heap.size, 2, none⟩ = some (.int .i64 x.count)) ∧ FnX w #[.slice h.s m.sT.length h.sc, .slice h.f m.fT.length h.fc, .slice h.r m.rT.length h.rc, .slice h.m m.mT.length h.mc, .slice h.l m.lT.length h.lc, .slice h.i m.iT.length h.ic, .int .i64 m.dT, .int .i64 m.oT, .int .i64 m.vT, .int .i64 m.aT, .slice h.u m.uT.length h.uc] #[.slice Ap p.length cp] wr.heap.size x.count W) ((with_reducible (first | (go_keep; done) | exact ⟨FnX.cells HS1.out.drew, HS1.out.drew⟩ | exact ⟨FnX.cells c7, c7⟩ | (have hH := (by assumption : _ ∧ FnX _ _ _ _ _ _); exact ⟨FnX.cells (FnX.drew hH.2), FnX.drew hH.2⟩)))) ((go_at_call 42; have hbw := HS1.out.drew.1.b; (with_reducible refine (HMK.out _ hbw).mono ?_); rintro e w2 ⟨v2, rfl, ho2, hb2⟩; obtain ⟨A2, c2, rfl, _⟩ := ho2.form; have c7 := FnX.grow HS1.out.drew hb2; clear ho2 hb2)))
        all_goals
         go_wp2_with fail
         go_ret3
         exact ⟨by rw [HQ.out]; rfl, c7.1.b⟩
  · obtain rfl : k = m.iT.length := by omega
    have HQ := hide (show finalM m p = (0, 0, true) by rw [HF.out, finalGo_end])
    go_wp2_with fail
    go_ret3
    exact ⟨by rw [HQ.out]; rfl, HS.out.b⟩
theorem OwnF.form {B : Nat} {w : World} {v : Value} {l : List (Int × Int)} (h : OwnF B w v l) : ∃ A c, v = .slice A l.length c ∧ FR w w.heap.size A l ∧ l.length ≤ 9223372036854775807 := by
 obtain ⟨A, c, e, hl⟩ : ∃ A c, v = .slice A l.length c ∧ l.length ≤ 9223372036854775807 := by
  rcases h.2 with ⟨rfl, h0⟩ | ⟨g, cap, cur, rfl, _, _, h1, h2, _⟩
  · exact ⟨none, 0, by rw [h0], by omega⟩
  · have hx : maxLen = 9223372036854775807 := by decide
    exact ⟨_, _, rfl, by omega⟩
 subst e
 exact ⟨A, c, rfl, Reads.of_own h, hl⟩
structure S3 (w : World) (M X P : Array Value) (W : World) : Prop where
 m : Blk W w.heap.size 29 M
 x : Blk W (w.heap.size + 1) 32 X
 p : Blk W (w.heap.size + 1 + 1) 35 P
 b : Below w.heap.size w W
theorem S3.start (w : World) (M X P : Array Value) : S3 w M X P (((w.alloc (.cells M 29)).alloc (.cells X 32)).alloc (.cells P 35)) := by
 have hs := SR.start w M X
 have hsz : ((w.alloc (.cells M 29)).alloc (.cells X 32)).heap.size = w.heap.size + 1 + 1 := by simp
 exact ⟨hs.m.alloc _, hs.x.alloc _, by rw [← hsz]; exact Blk.new _ _ _, hs.b.alloc hs.b.size _⟩
theorem S3.grow {w : World} {M X P : Array Value} {W W2 : World} (s : S3 w M X P W) (hb : Below W.heap.size W W2) : S3 w M X P W2 := ⟨s.m.below hb s.m.lt, s.x.below hb s.x.lt, s.p.below hb s.p.lt, s.b.trans (hb.mono s.b.size)⟩
structure VioM where
 kind : Int
 rule : Int
 time : Int
 by_ : Int
 num : Int
 item : Int
 at_ : Int
def vioC (v : VioM) : List Value := [.int .i64 v.kind, .int .i64 v.rule, .int .i64 v.time, .int .i64 v.by_, .int .i64 v.num, .int .i64 v.item, .int .i64 v.at_]
def vioCells (l : List VioM) : List Value := l.flatMap vioC
theorem vioCells_append (a b : List VioM) : vioCells (a ++ b) = vioCells a ++ vioCells b := by simp [vioCells]
theorem vioCells_one (l : List VioM) : ∀ u ∈ vioCells l, u.oneCell' = true := by
 intro u hu
 simp only [vioCells, List.mem_flatMap] at hu
 obtain ⟨b, _, hu⟩ := hu
 simp [vioC] at hu
 rcases hu with rfl | rfl | rfl | rfl | rfl | rfl | rfl <;> rfl
theorem vioCells_at (l : List VioM) : ∀ k (hk : k < l.length) (j : Nat) (u : Value), (vioC l[k])[j]? = some u → (vioCells l)[k * 7 + j]? = some u := by
 induction l with
 | nil => intro k hk; simp at hk
 | cons b l ih =>
   intro k hk j u hu
   cases k with
   | zero =>
     have hj : j < 7 := (List.getElem?_eq_some_iff.1 hu).1
     simp only [vioCells, List.flatMap_cons, Nat.zero_mul, Nat.zero_add]
     rw [List.getElem?_append_left (by exact hj)]
     exact hu
   | succ k =>
     have := ih k (by simpa using hk) j u hu
     have e : (k + 1) * 7 + j = (k * 7 + j) + 7 := by omega
     rw [e]
     simpa [vioCells, vioC] using this
def OVi (B : Nat) (w : World) (v : Value) (l : List VioM) : Prop := w.ownsRow B 54 7 v l.length (vioCells l)
theorem infoVi : (Tryz.prog.info? 54).map (fun i => (i.zero, i.size, i.bytes)) = some (some (.agg #[.int .i64 0, .int .i64 0, .int .i64 0, .int .i64 0, .int .i64 0, .int .i64 0, .int .i64 0]), 7, 56) := by kernel_rfl
theorem OVi.nil_ (B : Nat) (w : World) : OVi B w (.slice none 0 0) [] := World.ownsRow_nil _ _ _ _
theorem OVi.empty {B : Nat} (w : World) (hB : B ≤ w.heap.size) : OVi B (w.alloc (.cells #[] 54)) (.slice (some ⟨w.heap.size, 0, none⟩) 0 0) [] := by
 have := World.ownsRow_lit (e := 54) (size := 7) w #[] 0 hB (by decide) (by simp)
 simpa [OVi, vioCells] using this
theorem OVi.lt {B : Nat} {w : World} {v : Value} {l : List VioM} (h : OVi B w v l) : ∀ k, v.ownBlock = some k → B ≤ k ∧ k < w.heap.size := World.ownsRow.lt h
theorem OVi.below {B : Nat} {w w' : World} {v : Value} {l : List VioM} (h : OVi B w v l) (hb : Below w.heap.size w w') : OVi B w' v l := by
 refine ⟨h.1, ?_⟩
 rcases h.2 with h0 | ⟨g, cap, cur, e, hb0, hh, h4⟩
 · exact .inl h0
 · exact .inr ⟨g, cap, cur, e, hb0, Blk.below hh hb (Blk.lt hh), h4⟩
theorem OVi.ne {B g : Nat} {w : World} {v : Value} {l : List VioM} {T : TypeId} {cs : Array Value} (h : OVi B w v l) (hb : Blk w g T cs) (hne : T ≠ 54) : v.ownBlock ≠ some g := by
 rintro e
 rcases h.2 with ⟨rfl, _⟩ | ⟨g2, cap, cur, rfl, _, hh, _⟩
 · cases e
 · obtain rfl : g2 = g := Option.some.inj e
   rw [Blk] at hb
   have := hb.symm.trans hh
   simp at this
   exact hne this.2
def RdVi (w : World) (A : Option Addr) (l : List VioM) : Prop := ∀ k (hk : k < l.length), ∃ b off, A = some ⟨b, off, none⟩ ∧ b < w.heap.size ∧ ∀ (j : Nat) (u : Value), (vioC l[k])[j]? = some u → w.cell? ⟨b, off + k * 7 + j, none⟩ = some u
theorem RdVi.grow {w w' : World} {A : Option Addr} {l : List VioM} (h : RdVi w A l) (hb : Below w.heap.size w w') : RdVi w' A l := fun k hk => by
 obtain ⟨b, off, e, hl, hc⟩ := h k hk
 exact ⟨b, off, e, Nat.lt_of_lt_of_le hl hb.size, fun j u hu => (hb.cell (p := ⟨b, off + k * 7 + j, none⟩) hl).trans (hc j u hu)⟩
theorem OVi.rd {B : Nat} {w : World} {v : Value} {l : List VioM} (h : OVi B w v l) : ∃ A c, v = .slice A l.length c ∧ RdVi w A l := by
 rcases h.2 with ⟨rfl, h0⟩ | ⟨g, cap, cur, rfl, _, hh, hc, hm, _, ht⟩
 · have : l = [] := List.eq_nil_of_length_eq_zero h0
   subst this
   exact ⟨none, 0, rfl, fun k hk => absurd hk (by simp)⟩
 · refine ⟨_, cap, rfl, fun k hk => ⟨g, 0, rfl, Blk.lt hh, fun j u hu => ?_⟩⟩
   have h1 := vioCells_at l k hk j u hu
   rw [Nat.zero_add, Blk.cell hh (k * 7 + j)]
   rw [← ht, List.getElem?_take] at h1
   split at h1
   · simpa using h1
   · cases h1
theorem append_vi {ops : Array Oper} {rest : List Oper} {o : Oper} {a : Act} {Q : Exit → Act → World → Prop} {w : World} (hgd : o.guard = none) (s x : Operand)
    (ho : o.op = .call { callee := .builtin .append, args := #[s, x], argTypes := #[45, 45] })
    (base : Nat) (v : Value) (l : List VioM) (hs : a.eval s = v) (hown : OVi base w v l)
    (B : Nat) (A : Option Addr) (c : Nat) (b : VioM) (hx : a.eval x = .slice A 1 c) (hr : Reads w B 7 A 1 (vioCells [b]))
    (hlen : l.length + 1 ≤ 1000000) (hbase : base ≤ w.heap.size)
    (h : ∀ v' w', OVi base w' v' (l ++ [b]) → w.grownBy w' v.ownBlock → (v'.ownBlock = v.ownBlock ∨ v'.ownBlock = some w.heap.size) → wpList Tryz.prog ops Q rest (a.put o.dst v') w') : wpList Tryz.prog ops Q (o :: rest) a w := by
 obtain ⟨i0, hi, hz0, hz1, hz2⟩ := info_parts infoVi
 refine wpList_plain hgd fun _ hK => wp_append_any w s x 45 ho base 54 i0 _ 7 56 Tryz.underlying45 hi hz0 hz1 hz2 rfl (by omega) v l.length (vioCells l) hs hown B A 1 c (vioCells [b]) hx hr (vioCells_one [b]) (by unfold maxLen; omega) (by omega) hbase
  fun v' w' h2 h3 h4 => hK _ _ (h v' w' ?_ h3 h4)
 unfold OVi; rw [vioCells_append, List.length_append]; exact h2
theorem newVio (w : World) (b : VioM) : Reads (w.alloc (.cells #[.int .i64 b.kind, .int .i64 b.rule, .int .i64 b.time, .int .i64 b.by_, .int .i64 b.num, .int .i64 b.item, .int .i64 b.at_] 54)) (w.heap.size + 1) 7 (some ⟨w.heap.size, 0, none⟩) 1 (vioCells [b]) :=
 ⟨rfl, fun _ => ⟨_, rfl, by simp, fun j u hu => by rw [add_none, Nat.zero_add, cell?_new]; simpa [vioCells, vioC] using hu⟩⟩
theorem OwnF.keepB {B : Nat} {w w' : World} {v : Value} {l : List (Int × Int)} (h : OwnF B w v l) (h3 : ∀ g cur, v.ownBlock = some g → Blk w g 37 cur → Blk w' g 37 cur) : OwnF B w' v l := by
 refine ⟨h.1, ?_⟩
 rcases h.2 with h0 | ⟨g, cap, cur, e, hb, hh, h4⟩
 · exact .inl h0
 · exact .inr ⟨g, cap, cur, e, hb, h3 _ _ (by rw [e]; rfl) hh, h4⟩
def vioOf (m : Mod) (p : PlaceM) (time : Int) (i : Nat) (r : RuleM) (f : Int × Int) : List VioM :=
 if holdsR m r p f then [] else [⟨r.kind, (i : Int) + 1, time, f.1, f.2, r.item, whereI m r p⟩]
def instF (m : Mod) (p : PlaceM) (time : Int) (i : Nat) (r : RuleM) (q : Nat) : List VioM := ((failuresR m r).take q).flatMap (vioOf m p time i r)
def instTo (m : Mod) (p : PlaceM) (time : Int) (k : Nat) : List VioM := (List.range k).flatMap fun i => match m.uT[i]? with | some r => instF m p time i r (failuresR m r).length | none => []
def instantM (m : Mod) (p : PlaceM) (time : Int) : List VioM := instTo m p time m.uT.length
theorem instF_zero (m : Mod) (p : PlaceM) (time : Int) (i : Nat) (r : RuleM) : instF m p time i r 0 = [] := rfl
theorem instF_succ (m : Mod) (p : PlaceM) (time : Int) (i : Nat) (r : RuleM) {q : Nat} (hq : q < (failuresR m r).length) : instF m p time i r (q + 1) = instF m p time i r q ++ vioOf m p time i r (failuresR m r)[q] := by
 unfold instF
 rw [List.take_succ_eq_append_getElem hq, List.flatMap_append]; simp
theorem instTo_succ (m : Mod) (p : PlaceM) (time : Int) {k : Nat} (hk : k < m.uT.length) : instTo m p time (k + 1) = instTo m p time k ++ instF m p time k m.uT[k] (failuresR m m.uT[k]).length := by
 unfold instTo
 rw [List.range_succ, List.flatMap_append]
 simp [hk]
theorem vioOf_len (m : Mod) (p : PlaceM) (time : Int) (i : Nat) (r : RuleM) (f : Int × Int) : (vioOf m p time i r f).length ≤ 1 := by
 unfold vioOf; split <;> simp
theorem instF_len (m : Mod) (p : PlaceM) (time : Int) (i : Nat) (r : RuleM) (q : Nat) : (instF m p time i r q).length ≤ q := by
 unfold instF
 have : ∀ l : List (Int × Int), (l.flatMap (vioOf m p time i r)).length ≤ l.length := fun l => by
  induction l with
  | nil => simp
  | cons a l ih => rw [List.flatMap_cons, List.length_append, List.length_cons]; have := vioOf_len m p time i r a; omega
 have h := this ((failuresR m r).take q)
 rw [List.length_take] at h
 omega
theorem FewM.doms {m : Mod} (F : FewM m) (i : Int) : domsI m i ≤ 100 := by
 have h1 := F.cm
 have h2 := F.cr
 have h3 := F.ce
 have h4 := F.cs
 unfold domsI
 repeat' split
 all_goals omega
theorem failuresR_len {m : Mod} (F : FewM m) (r : RuleM) : (failuresR m r).length ≤ 401 := by
 unfold failuresR
 split
 · have := preF_len m 100 (fun i => by have := F.doms i; omega) 3 0 (by omega) (by omega)
   rw [← preF_all]; omega
 · simp
theorem instTo_len {m : Mod} (F : FewM m) (p : PlaceM) (time : Int) (k : Nat) : (instTo m p time k).length ≤ k * 401 := by
 unfold instTo
 induction k with
 | zero => simp
 | succ k ih =>
   rw [List.range_succ, List.flatMap_append, List.length_append]
   have : (List.flatMap (fun i => match m.uT[i]? with | some r => instF m p time i r (failuresR m r).length | none => []) [k]).length ≤ 401 := by
    simp only [List.flatMap_cons, List.flatMap_nil, List.append_nil]
    split
    · rename_i r _
      have h1 := instF_len m p time k r (failuresR m r).length
      have h2 := failuresR_len F r
      omega
    · simp
   omega
theorem NoK.soon {w : World} {M X P F : Array Value} {W w1 : World} (s : S4 w M X P F W) (hb : Below W.heap.size W w1) (o : Obj) : Below w.heap.size w (w1.alloc o) := (s.grow hb).b.alloc (s.grow hb).b.size _
theorem NoK.late {w : World} {M X P F : Array Value} {W W0 w1 : World} (s : S4 w M X P F W) (h0 : Below W.heap.size W W0) {Fb : Nat} (hFb : w.heap.size ≤ Fb) (hb : Below W0.heap.size W0 w1) (u v : Value) :
    Below w.heap.size w ((w1.setCell ⟨Fb, 0, none⟩ u).setCell ⟨Fb, 1, none⟩ v) := (((s.grow h0).grow hb).b.setCell hFb _).setCell hFb _
theorem where_no (h : MH) (m : Mod) (x : RuleM) (hk : ¬ (0 ≤ x.kind ∧ x.kind < 4)) (A : Option Addr) (c : Nat) (Ap : Option Addr) (cp : Nat) (p : PlaceM) (f : Int × Int) (w : World) :
    Calls Tryz.prog 33 #[.agg #[.slice h.s m.sT.length h.sc, .slice h.f m.fT.length h.fc, .slice h.r m.rT.length h.rc, .slice h.m m.mT.length h.mc, .slice h.l m.lT.length h.lc, .slice h.i m.iT.length h.ic, .int .i64 m.dT, .int .i64 m.oT, .int .i64 m.vT, .int .i64 m.aT, .slice h.u m.uT.length h.uc], .agg #[.int .i64 x.kind, .int .i64 x.item, .int .i64 x.other, .int .i64 x.n, .int .i64 x.by_, .bool x.always, .slice A x.machines.length c], .agg #[.slice Ap p.length cp], .agg #[.int .i64 f.1, .int .i64 f.2]] w (HoldR 0 true w) := by
 have HKD := hide hk
 have H0 := hide (S4.start w #[.slice h.s m.sT.length h.sc, .slice h.f m.fT.length h.fc, .slice h.r m.rT.length h.rc, .slice h.m m.mT.length h.mc, .slice h.l m.lT.length h.lc, .slice h.i m.iT.length h.ic, .int .i64 m.dT, .int .i64 m.oT, .int .i64 m.vT, .int .i64 m.aT, .slice h.u m.uT.length h.uc] #[.int .i64 x.kind, .int .i64 x.item, .int .i64 x.other, .int .i64 x.n, .int .i64 x.by_, .bool x.always, .slice A x.machines.length c] #[.slice Ap p.length cp] #[.int .i64 f.1, .int .i64 f.2])
 clear hk
 go_enter Tryz.func33, Tryz.ntmps33
 go_wp2_with fail
 go_cut [10, 11] (fun _ ok wx => ok = .bool false ∧ Below w.heap.size w wx)
 case first =>
  go_region_held3 (fun W => W.cell? ⟨w.heap.size + 1, 0, none⟩ = some (.int .i64 x.kind)) (first | (go_keep; done) | (with_reducible exact hc0) | exact (World.cell?_of_block (Below.heap_setCell _ _ _ _ (by simp <;> omega))).trans ((World.cell?_of_block (Below.heap_setCell _ _ _ _ (by simp <;> omega))).trans hc0) | exact (World.cell?_alloc_lt _ _ _ (by simp <;> omega)).trans hc0 | exact H0.out.x.cell 0 | exact (S4.grow H0.out ((Below.refl _ _).alloc (Nat.le_refl _) _)).drew.x.cell 0 | exact (S4.grow H0.out.drew ((Below.refl _ _).alloc (Nat.le_refl _) _)).x.cell 0) ((go_at_call 38; refine (kinds22_prog _).mono ?_; rintro e w1 ⟨rfl, hF, hBx, hb⟩; have hlk := lookK_no hF HKD.out; have hlk2 := (fun o => lookK_no (heap_keep2 hF o) HKD.out); have hc0 := (hb.cell (p := ⟨w.heap.size + 1, 0, none⟩) (by simp <;> omega)).trans (by first | exact H0.out.x.cell 0 | exact (S4.grow H0.out ((Below.refl _ _).alloc (Nat.le_refl _) _)).drew.x.cell 0 | exact (S4.grow H0.out.drew ((Below.refl _ _).alloc (Nat.le_refl _) _)).x.cell 0); (try simp at hc0); (try simp at hlk); (try simp at hlk2); clear hF; obtain ⟨hcA, hfA⟩ := bcell hb))
  all_goals
   go_wp2_with fail
   go_meet
   refine ⟨rfl, ?_⟩
   clear hcA hfA hBx
   first
    | exact NoK.soon H0.out.drew hb _
    | exact NoK.soon H0.out hb _
    | exact NoK.late H0.out (((Below.refl _ _).alloc (Nat.le_refl _) _).drew) (by omega) hb _ _
    | exact NoK.late H0.out (((Below.refl _ _).alloc (Nat.le_refl _) _)) (by omega) hb _ _
    | exact NoK.late H0.out.drew (((Below.refl _ _).alloc (Nat.le_refl _) _)) (by omega) hb _ _
 case rest =>
  obtain ⟨rfl, hb⟩ := hcut
  go_wp2_with fail
  go_ret2
  exact ⟨rfl, hb⟩
theorem whereI_no {m : Mod} {x : RuleM} {p : PlaceM} (hk : ¬ (0 ≤ x.kind ∧ x.kind < 4)) : whereI m x p = 0 := by
 unfold whereI; rw [if_neg (by omega), if_neg (by omega)]
theorem holdsR_no {m : Mod} {x : RuleM} {p : PlaceM} {f : Int × Int} (hk : ¬ (0 ≤ x.kind ∧ x.kind < 4)) : holdsR m x p f = true := by
 unfold holdsR; rw [if_neg (by omega), if_neg (by omega), if_neg (by omega), if_neg (by omega)]
theorem where_any (h : MH) (m : Mod) (x : RuleM) (A : Option Addr) (c : Nat) (Ap : Option Addr) (cp : Nat) (p : PlaceM) (f : Int × Int) (w : World) (C : Cond w h m x A Ap cp p) :
    Calls Tryz.prog 33 #[.agg #[.slice h.s m.sT.length h.sc, .slice h.f m.fT.length h.fc, .slice h.r m.rT.length h.rc, .slice h.m m.mT.length h.mc, .slice h.l m.lT.length h.lc, .slice h.i m.iT.length h.ic, .int .i64 m.dT, .int .i64 m.oT, .int .i64 m.vT, .int .i64 m.aT, .slice h.u m.uT.length h.uc], .agg #[.int .i64 x.kind, .int .i64 x.item, .int .i64 x.other, .int .i64 x.n, .int .i64 x.by_, .bool x.always, .slice A x.machines.length c], .agg #[.slice Ap p.length cp], .agg #[.int .i64 f.1, .int .i64 f.2]] w (HoldR (whereI m x p) (holdsR m x p f) w) := by
 by_cases hk : 0 ≤ x.kind ∧ x.kind < 4
 · exact where_yes h m x.kind.toNat (by omega) x (by omega) A c Ap cp p f w C
 · rw [whereI_no hk, holdsR_no hk]; exact where_no h m x hk A c Ap cp p f w
theorem holds_prog (h : MH) (m : Mod) (x : RuleM) (A : Option Addr) (c : Nat) (Ap : Option Addr) (cp : Nat) (p : PlaceM) (f : Int × Int) (w : World) (C : Cond w h m x A Ap cp p) :
    Calls Tryz.prog 11 #[.agg #[.slice h.s m.sT.length h.sc, .slice h.f m.fT.length h.fc, .slice h.r m.rT.length h.rc, .slice h.m m.mT.length h.mc, .slice h.l m.lT.length h.lc, .slice h.i m.iT.length h.ic, .int .i64 m.dT, .int .i64 m.oT, .int .i64 m.vT, .int .i64 m.aT, .slice h.u m.uT.length h.uc], .agg #[.int .i64 x.kind, .int .i64 x.item, .int .i64 x.other, .int .i64 x.n, .int .i64 x.by_, .bool x.always, .slice A x.machines.length c], .agg #[.slice Ap p.length cp], .agg #[.int .i64 f.1, .int .i64 f.2]] w (AnsR w (.bool (holdsR m x p f))) := by
 have HS := hide (S4.start w #[.slice h.s m.sT.length h.sc, .slice h.f m.fT.length h.fc, .slice h.r m.rT.length h.rc, .slice h.m m.mT.length h.mc, .slice h.l m.lT.length h.lc, .slice h.i m.iT.length h.ic, .int .i64 m.dT, .int .i64 m.oT, .int .i64 m.vT, .int .i64 m.aT, .slice h.u m.uT.length h.uc] #[.int .i64 x.kind, .int .i64 x.item, .int .i64 x.other, .int .i64 x.n, .int .i64 x.by_, .bool x.always, .slice A x.machines.length c] #[.slice Ap p.length cp] #[.int .i64 f.1, .int .i64 f.2])
 have HW := hide (where_any h m x A c Ap cp p f _ (C.grow HS.out.b))
 clear C
 go_enter Tryz.func11, Tryz.ntmps11
 go_wp2_with (go_at_call 33; refine HW.out.mono ?_; rintro e w1 ⟨rfl, hb⟩; have HB := hide hb; clear hb)
 go_ret
 exact ⟨rfl, HS.out.b.trans (HB.out.mono HS.out.b.size)⟩
theorem NoR.soon {w : World} {M X : Array Value} {W w1 : World} (s : SR w M X W) (hb : Below W.heap.size W w1) (o : Obj) : Below w.heap.size w (w1.alloc o) := (s.grow hb).b.alloc (s.grow hb).b.size _
theorem NoR.late {w : World} {M X : Array Value} {W W0 w1 : World} (s : SR w M X W) (h0 : Below W.heap.size W W0) {Fb : Nat} (hFb : w.heap.size ≤ Fb) (hb : Below W0.heap.size W0 w1) (u v : Value) :
    Below w.heap.size w ((w1.setCell ⟨Fb, 0, none⟩ u).setCell ⟨Fb, 1, none⟩ v) := (((s.grow h0).grow hb).b.setCell hFb _).setCell hFb _
theorem failures22_no (h : MH) (m : Mod) (x : RuleM) (hk : ¬ (0 ≤ x.kind ∧ x.kind < 4)) (A : Option Addr) (c : Nat) (w : World) :
    Calls Tryz.prog 14 #[.agg #[.slice h.s m.sT.length h.sc, .slice h.f m.fT.length h.fc, .slice h.r m.rT.length h.rc, .slice h.m m.mT.length h.mc, .slice h.l m.lT.length h.lc, .slice h.i m.iT.length h.ic, .int .i64 m.dT, .int .i64 m.oT, .int .i64 m.vT, .int .i64 m.aT, .slice h.u m.uT.length h.uc], .agg #[.int .i64 x.kind, .int .i64 x.item, .int .i64 x.other, .int .i64 x.n, .int .i64 x.by_, .bool x.always, .slice A x.machines.length c]] w (FailsR w [(0, 0)]) := by
 have HKD := hide hk
 have H0 := hide (SR.start w #[.slice h.s m.sT.length h.sc, .slice h.f m.fT.length h.fc, .slice h.r m.rT.length h.rc, .slice h.m m.mT.length h.mc, .slice h.l m.lT.length h.lc, .slice h.i m.iT.length h.ic, .int .i64 m.dT, .int .i64 m.oT, .int .i64 m.vT, .int .i64 m.aT, .slice h.u m.uT.length h.uc] #[.int .i64 x.kind, .int .i64 x.item, .int .i64 x.other, .int .i64 x.n, .int .i64 x.by_, .bool x.always, .slice A x.machines.length c])
 clear hk
 go_enter Tryz.func14, Tryz.ntmps14
 go_wp2_with fail
 go_cut [5, 6] (fun _ ok wx => ok = .bool false ∧ Below w.heap.size w wx)
 case first =>
  go_region_held3 (fun W => W.cell? ⟨w.heap.size + 1, 0, none⟩ = some (.int .i64 x.kind)) (first | (go_keep; done) | (with_reducible exact hc0) | exact (World.cell?_of_block (Below.heap_setCell _ _ _ _ (by simp <;> omega))).trans ((World.cell?_of_block (Below.heap_setCell _ _ _ _ (by simp <;> omega))).trans hc0) | exact (World.cell?_alloc_lt _ _ _ (by simp <;> omega)).trans hc0 | exact H0.out.x.cell 0 | exact (SR.grow H0.out ((Below.refl _ _).alloc (Nat.le_refl _) _)).drew.x.cell 0 | exact (SR.grow H0.out.drew ((Below.refl _ _).alloc (Nat.le_refl _) _)).x.cell 0) ((go_at_call 38; refine (kinds22_prog _).mono ?_; rintro e w1 ⟨rfl, hF, hBx, hb⟩; have hlk := lookK_no hF HKD.out; have hlk2 := (fun o => lookK_no (heap_keep2 hF o) HKD.out); have hc0 := (hb.cell (p := ⟨w.heap.size + 1, 0, none⟩) (by simp <;> omega)).trans (by first | exact H0.out.x.cell 0 | exact (SR.grow H0.out ((Below.refl _ _).alloc (Nat.le_refl _) _)).drew.x.cell 0 | exact (SR.grow H0.out.drew ((Below.refl _ _).alloc (Nat.le_refl _) _)).x.cell 0); (try simp at hc0); (try simp at hlk); (try simp at hlk2); clear hF hBx; obtain ⟨hcA, hfA⟩ := bcell hb))
  all_goals
   go_wp2_with fail
   go_meet
   refine ⟨rfl, ?_⟩
   clear hcA hfA
   first
    | exact NoR.soon H0.out.drew hb _
    | exact NoR.soon H0.out hb _
    | exact NoR.late H0.out (((Below.refl _ _).alloc (Nat.le_refl _) _).drew) (by omega) hb _ _
    | exact NoR.late H0.out (((Below.refl _ _).alloc (Nat.le_refl _) _)) (by omega) hb _ _
    | exact NoR.late H0.out.drew (((Below.refl _ _).alloc (Nat.le_refl _) _)) (by omega) hb _ _
 case rest =>
  obtain ⟨rfl, hb⟩ := hcut
  have HB := hide hb
  clear hb
  go_wp2_with fail
  go_ret
  have hl := World.ownsRow_lit (e := 37) (size := 2) wc #[.int .i64 0, .int .i64 0] 1 HB.out.size (by decide) (by simp)
  exact ⟨_, rfl, hl, HB.out.alloc HB.out.size _⟩
theorem fails_prog (h : MH) (m : Mod) (F : FewM m) (x : RuleM) (A : Option Addr) (c : Nat) (w : World) :
    Calls Tryz.prog 14 #[.agg #[.slice h.s m.sT.length h.sc, .slice h.f m.fT.length h.fc, .slice h.r m.rT.length h.rc, .slice h.m m.mT.length h.mc, .slice h.l m.lT.length h.lc, .slice h.i m.iT.length h.ic, .int .i64 m.dT, .int .i64 m.oT, .int .i64 m.vT, .int .i64 m.aT, .slice h.u m.uT.length h.uc], .agg #[.int .i64 x.kind, .int .i64 x.item, .int .i64 x.other, .int .i64 x.n, .int .i64 x.by_, .bool x.always, .slice A x.machines.length c]] w (FailsR w (failuresR m x)) := by
 by_cases hk : 0 ≤ x.kind ∧ x.kind < 4
 · exact failures22_prog h m F x.kind.toNat (by omega) x (by omega) A c w
 · have e : failuresR m x = [(0, 0)] := by unfold failuresR; rw [if_neg (by omega)]
   rw [e]; exact failures22_no h m x hk A c w
end Go.Proofs.YtlnjaemdelnceaaGreatDoor
