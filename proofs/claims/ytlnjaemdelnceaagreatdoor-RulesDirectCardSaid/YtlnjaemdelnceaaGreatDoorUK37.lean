/- A part of the claim: see its last text. -/
import Derived.Test.YtlnjaemdelnceaaGreatDoorUK36
import Derived.Test.YtlnjaemdelnceaaGreatDoorUK29

set_option maxRecDepth 100000
set_option maxHeartbeats 16000000
namespace Go.Proofs.YtlnjaemdelnceaaGreatDoor
open Go Go.RowKit Go.Proofs
structure SpW (w : World) (h : MH) (m : Mod) (q : Addr) (x : Int) (g : Nat) (w3 W : World) : Prop where
 s : Blk W w.heap.size 29 #[.slice h.s m.sT.length h.sc, .slice h.f m.fT.length h.fc, .slice h.r m.rT.length h.rc, .slice h.m m.mT.length h.mc, .slice h.l m.lT.length h.lc, .slice h.i m.iT.length h.ic, .int .i64 m.dT, .int .i64 m.oT, .int .i64 m.vT, .int .i64 m.aT, .slice h.u m.uT.length h.uc]
 x : W.cell? q = some (.int .i64 x)
 lt : q.block < W.heap.size
 ne : w.heap.size ≠ g
 qe : q.block ≠ g
 b : Besides g w3 W
theorem SpW.grow {w : World} {h : MH} {m : Mod} {q : Addr} {x : Int} {g : Nat} {w3 W W' : World} (s : SpW w h m q x g w3 W) (hb : Below W.heap.size W W') : SpW w h m q x g w3 W' :=
 ⟨s.s.below hb s.s.lt, (hb.cell s.lt).trans s.x, Nat.lt_of_lt_of_le s.lt hb.size, s.ne, s.qe, s.b.trans (Besides.below hb)⟩
theorem SpW.drew {w : World} {h : MH} {m : Mod} {q : Addr} {x : Int} {g : Nat} {w3 W : World} (s : SpW w h m q x g w3 W) : SpW w h m q x g w3 W.drew := s.grow (Below.refl _ W).drew
theorem SpW.cells {w : World} {h : MH} {m : Mod} {q : Addr} {x : Int} {g : Nat} {w3 W : World} (s : SpW w h m q x g w3 W) : (W.cell? ⟨w.heap.size, 0, none⟩ = some (.slice h.s m.sT.length h.sc) ∧ W.cell? ⟨w.heap.size, 1, none⟩ = some (.slice h.f m.fT.length h.fc) ∧ W.cell? ⟨w.heap.size, 2, none⟩ = some (.slice h.r m.rT.length h.rc) ∧ W.cell? ⟨w.heap.size, 3, none⟩ = some (.slice h.m m.mT.length h.mc) ∧ W.cell? ⟨w.heap.size, 4, none⟩ = some (.slice h.l m.lT.length h.lc) ∧ W.cell? ⟨w.heap.size, 5, none⟩ = some (.slice h.i m.iT.length h.ic) ∧ W.cell? ⟨w.heap.size, 6, none⟩ = some (.int .i64 m.dT) ∧ W.cell? ⟨w.heap.size, 7, none⟩ = some (.int .i64 m.oT) ∧ W.cell? ⟨w.heap.size, 8, none⟩ = some (.int .i64 m.vT) ∧ W.cell? ⟨w.heap.size, 9, none⟩ = some (.int .i64 m.aT) ∧ W.cell? ⟨w.heap.size, 10, none⟩ = some (.slice h.u m.uT.length h.uc)) ∧ W.cell? q = some (.int .i64 x) := ⟨MB.cells s.s, s.x⟩
def VR (W : World) (g : Nat) (v : Value) (L : List Int) : Prop := (v = .slice none 0 0 ∧ L = []) ∨ ∃ Lb c cs, v = .slice (some ⟨Lb, 0, none⟩) L.length c ∧ Lb ≠ g ∧ RowI W Lb cs L
structure SpF (w : World) (h : MH) (m : Mod) (n g : Nat) (v : Value) (L : List Int) (W : World) : Prop where
 b : Below w.heap.size w W
 mo : Blk W w.heap.size 29 #[.slice h.s m.sT.length h.sc, .slice h.f m.fT.length h.fc, .slice h.r m.rT.length h.rc, .slice h.m m.mT.length h.mc, .slice h.l m.lT.length h.lc, .slice h.i m.iT.length h.ic, .int .i64 m.dT, .int .i64 m.oT, .int .i64 m.vT, .int .i64 m.aT, .slice h.u m.uT.length h.uc]
 z : Blk W g 3 (Array.replicate n (.int .i64 0))
 ne : w.heap.size ≠ g
 le : w.heap.size ≤ g
 v : VR W g v L
structure SpB (w : World) (M : Array Value) (A : Option Addr) (n c : Nat) (W : World) : Prop where
 m : Blk W w.heap.size 29 M
 p : Blk W (w.heap.size + 1) 35 #[.slice A n c]
 b : Below w.heap.size w W
theorem SpB.grow {w : World} {M : Array Value} {A : Option Addr} {n c : Nat} {W W' : World} (s : SpB w M A n c W) (hb : Below W.heap.size W W') : SpB w M A n c W' := ⟨s.m.below hb s.m.lt, s.p.below hb s.p.lt, s.b.trans (hb.mono s.b.size)⟩
theorem SpB.drew {w : World} {M : Array Value} {A : Option Addr} {n c : Nat} {W : World} (s : SpB w M A n c W) : SpB w M A n c W.drew := s.grow (Below.refl _ W).drew
theorem SpB.alloc {w : World} {M : Array Value} {A : Option Addr} {n c : Nat} {W : World} (s : SpB w M A n c W) {o : Obj} : SpB w M A n c (W.alloc o) := s.grow ((Below.refl _ _).alloc (Nat.le_refl _) _)
theorem SpB.cells {w : World} {h : MH} {m : Mod} {A : Option Addr} {n c : Nat} {W : World} (s : SpB w #[.slice h.s m.sT.length h.sc, .slice h.f m.fT.length h.fc, .slice h.r m.rT.length h.rc, .slice h.m m.mT.length h.mc, .slice h.l m.lT.length h.lc, .slice h.i m.iT.length h.ic, .int .i64 m.dT, .int .i64 m.oT, .int .i64 m.vT, .int .i64 m.aT, .slice h.u m.uT.length h.uc] A n c W) : (W.cell? ⟨w.heap.size, 0, none⟩ = some (.slice h.s m.sT.length h.sc) ∧ W.cell? ⟨w.heap.size, 1, none⟩ = some (.slice h.f m.fT.length h.fc) ∧ W.cell? ⟨w.heap.size, 2, none⟩ = some (.slice h.r m.rT.length h.rc) ∧ W.cell? ⟨w.heap.size, 3, none⟩ = some (.slice h.m m.mT.length h.mc) ∧ W.cell? ⟨w.heap.size, 4, none⟩ = some (.slice h.l m.lT.length h.lc) ∧ W.cell? ⟨w.heap.size, 5, none⟩ = some (.slice h.i m.iT.length h.ic) ∧ W.cell? ⟨w.heap.size, 6, none⟩ = some (.int .i64 m.dT) ∧ W.cell? ⟨w.heap.size, 7, none⟩ = some (.int .i64 m.oT) ∧ W.cell? ⟨w.heap.size, 8, none⟩ = some (.int .i64 m.vT) ∧ W.cell? ⟨w.heap.size, 9, none⟩ = some (.int .i64 m.aT) ∧ W.cell? ⟨w.heap.size, 10, none⟩ = some (.slice h.u m.uT.length h.uc)) ∧ W.cell? ⟨w.heap.size + 1, 0, none⟩ = some (.slice A n c) := ⟨MB.cells s.m, s.p.cell 0⟩
theorem spread_ref (h : MH) (m : Mod) (A : Option Addr) (c : Nat) (p : PlaceM) (item by_ : Int) (w : World) (d : MD w w.heap.size h m) (hp : PR w w.heap.size A p) (hl : p.length ≤ 1000) (hul : (unitsP p item).length ≤ 1000) (hd : domsI m by_ ≤ 100) :
    Calls Tryz.prog 24 #[.agg #[.slice h.s m.sT.length h.sc, .slice h.f m.fT.length h.fc, .slice h.r m.rT.length h.rc, .slice h.m m.mT.length h.mc, .slice h.l m.lT.length h.lc, .slice h.i m.iT.length h.ic, .int .i64 m.dT, .int .i64 m.oT, .int .i64 m.vT, .int .i64 m.aT, .slice h.u m.uT.length h.uc], .agg #[.slice A p.length c], .int .i64 item, .int .i64 by_] w (IntsR w (spreadP m p item by_)) := by
 have hb0 : Below w.heap.size w ((w.alloc (.cells #[.slice h.s m.sT.length h.sc, .slice h.f m.fT.length h.fc, .slice h.r m.rT.length h.rc, .slice h.m m.mT.length h.mc, .slice h.l m.lT.length h.lc, .slice h.i m.iT.length h.ic, .int .i64 m.dT, .int .i64 m.oT, .int .i64 m.vT, .int .i64 m.aT, .slice h.u m.uT.length h.uc] 29)).alloc (.cells #[.slice A p.length c] 35)) := ((Below.refl w.heap.size w).alloc (Nat.le_refl _) _).alloc (by simp) _
 have HM0 := hide (show Blk ((w.alloc (.cells #[.slice h.s m.sT.length h.sc, .slice h.f m.fT.length h.fc, .slice h.r m.rT.length h.rc, .slice h.m m.mT.length h.mc, .slice h.l m.lT.length h.lc, .slice h.i m.iT.length h.ic, .int .i64 m.dT, .int .i64 m.oT, .int .i64 m.vT, .int .i64 m.aT, .slice h.u m.uT.length h.uc] 29)).alloc (.cells #[.slice A p.length c] 35)) w.heap.size 29 #[.slice h.s m.sT.length h.sc, .slice h.f m.fT.length h.fc, .slice h.r m.rT.length h.rc, .slice h.m m.mT.length h.mc, .slice h.l m.lT.length h.lc, .slice h.i m.iT.length h.ic, .int .i64 m.dT, .int .i64 m.oT, .int .i64 m.vT, .int .i64 m.aT, .slice h.u m.uT.length h.uc] from (Blk.new w _ _).alloc _)
 have HP0 := hide (show Blk ((w.alloc (.cells #[.slice h.s m.sT.length h.sc, .slice h.f m.fT.length h.fc, .slice h.r m.rT.length h.rc, .slice h.m m.mT.length h.mc, .slice h.l m.lT.length h.lc, .slice h.i m.iT.length h.ic, .int .i64 m.dT, .int .i64 m.oT, .int .i64 m.vT, .int .i64 m.aT, .slice h.u m.uT.length h.uc] 29)).alloc (.cells #[.slice A p.length c] 35)) (w.heap.size + 1) 35 #[.slice A p.length c] by
  have := Blk.new (w.alloc (.cells #[.slice h.s m.sT.length h.sc, .slice h.f m.fT.length h.fc, .slice h.r m.rT.length h.rc, .slice h.m m.mT.length h.mc, .slice h.l m.lT.length h.lc, .slice h.i m.iT.length h.ic, .int .i64 m.dT, .int .i64 m.oT, .int .i64 m.vT, .int .i64 m.aT, .slice h.u m.uT.length h.uc] 29)) 35 #[.slice A p.length c]
  simpa using this)
 have HB := hide hb0
 have HDM := hide (fun W => domains_ref h m by_ W)
 have HD := hide (fun W (hb : Below w.heap.size w W) (x : Int) => domain_ref h m by_ x W (d.grow hb))
 have HM := hide (fun W (hb : Below w.heap.size w W) => machines_ref A c p item 0 W (hp.grow hb) hl hul)
 have HML := hide (show (machinesP p item 0).length ≤ 1000 by have := machinesP_len p item 0; omega)
 obtain ⟨n, hn⟩ : ∃ n : Nat, domsI m by_ = (n : Int) := ⟨(domsI m by_).toNat, by have := domsI_nonneg m by_; omega⟩
 have HNI := hide hn
 have hn100 : n ≤ 100 := by omega
 rw [hn] at HDM
 clear hb0 d hp hd hn
 have hmk := fun W => mk_ints n (by omega) W
 go_enter Tryz.func24, Tryz.ntmps24
 have HS := hide (show SpB w #[.slice h.s m.sT.length h.sc, .slice h.f m.fT.length h.fc, .slice h.r m.rT.length h.rc, .slice h.m m.mT.length h.mc, .slice h.l m.lT.length h.lc, .slice h.i m.iT.length h.ic, .int .i64 m.dT, .int .i64 m.oT, .int .i64 m.vT, .int .i64 m.aT, .slice h.u m.uT.length h.uc] A p.length c _ from ⟨HM0.out, HP0.out, HB.out⟩)
 go_wp2_with fail
 go_region_held3 (fun W => ((W.cell? ⟨w.heap.size, 0, none⟩ = some (.slice h.s m.sT.length h.sc) ∧ W.cell? ⟨w.heap.size, 1, none⟩ = some (.slice h.f m.fT.length h.fc) ∧ W.cell? ⟨w.heap.size, 2, none⟩ = some (.slice h.r m.rT.length h.rc) ∧ W.cell? ⟨w.heap.size, 3, none⟩ = some (.slice h.m m.mT.length h.mc) ∧ W.cell? ⟨w.heap.size, 4, none⟩ = some (.slice h.l m.lT.length h.lc) ∧ W.cell? ⟨w.heap.size, 5, none⟩ = some (.slice h.i m.iT.length h.ic) ∧ W.cell? ⟨w.heap.size, 6, none⟩ = some (.int .i64 m.dT) ∧ W.cell? ⟨w.heap.size, 7, none⟩ = some (.int .i64 m.oT) ∧ W.cell? ⟨w.heap.size, 8, none⟩ = some (.int .i64 m.vT) ∧ W.cell? ⟨w.heap.size, 9, none⟩ = some (.int .i64 m.aT) ∧ W.cell? ⟨w.heap.size, 10, none⟩ = some (.slice h.u m.uT.length h.uc)) ∧ W.cell? ⟨w.heap.size + 1, 0, none⟩ = some (.slice A p.length c)) ∧ SpB w #[.slice h.s m.sT.length h.sc, .slice h.f m.fT.length h.fc, .slice h.r m.rT.length h.rc, .slice h.m m.mT.length h.mc, .slice h.l m.lT.length h.lc, .slice h.i m.iT.length h.ic, .int .i64 m.dT, .int .i64 m.oT, .int .i64 m.vT, .int .i64 m.aT, .slice h.u m.uT.length h.uc] A p.length c W)
  ((with_reducible (first | (go_keep; done) | exact ⟨SpB.cells HS.out.drew, HS.out.drew⟩ | exact ⟨SpB.cells c1, c1⟩ | exact ⟨SpB.cells c3, c3⟩ | exact ⟨SpB.cells (SpB.alloc c1), SpB.alloc c1⟩ | exact ⟨SpB.cells (SpB.alloc c3), SpB.alloc c3⟩ | (have hH := (by assumption : _ ∧ SpB _ _ _ _ _ _); first | exact ⟨SpB.cells (SpB.drew hH.2), SpB.drew hH.2⟩ | exact ⟨SpB.cells (SpB.alloc hH.2), SpB.alloc hH.2⟩))))
  ((first
    | (go_at_call 52; first
        | (have hH := (by assumption : _ ∧ SpB _ _ _ _ _ _); (with_reducible refine (HDM.out _).mono ?_); rintro e w1 ⟨rfl, hb1⟩; have c1 := SpB.grow hH.2 hb1; clear hH)
        | (have hH := And.intro (SpB.cells HS.out.drew) HS.out.drew; (with_reducible refine (HDM.out _).mono ?_); rintro e w1 ⟨rfl, hb1⟩; have c1 := SpB.grow hH.2 hb1; clear hH))
    | (go_at_call 35; first
        | (have hH := (by assumption : _ ∧ SpB _ _ _ _ _ _); (with_reducible refine (HM.out _ hH.2.b).mono ?_); rintro e w3 ⟨v3, rfl, ho3, hb3⟩; have c3 := SpB.grow hH.2 hb3; clear hH)
        | (have hH := And.intro (SpB.cells HS.out.drew) HS.out.drew; (with_reducible refine (HM.out _ hH.2.b).mono ?_); rintro e w3 ⟨v3, rfl, ho3, hb3⟩; have c3 := SpB.grow hH.2 hb3; clear hH))))
 · have hF : SpF w h m n w1.heap.size v3 (machinesP p item 0) w3 := by
     have hb1w := (SpB.b c1).size
     refine ⟨c3.b, c3.m, (Blk.new w1 _ _).below hb3 (by simp), by have := c1.m.lt; omega, hb1w, ?_⟩
     rcases ho3.row with h0 | ⟨Lb, c', cs, e, hLb, hR, _, _⟩
     · exact .inl h0
     · exact .inr ⟨Lb, c', cs, e, by simp at hLb; omega, hR⟩
   obtain ⟨A3, k3, rfl, _⟩ := ho3.form
   clear c1 c3 hb1 hb3 ho3
   revert hF
   generalize w1.heap.size = g
   intro hF
   obtain ⟨L, hL⟩ : ∃ L, L = machinesP p item 0 := ⟨_, rfl⟩
   have HL := hide hL
   rw [← hL] at hF ⊢
   have hLl : L.length ≤ 1000 := by rw [hL]; exact HML.out
   have HF := hide hF
   clear hL hF
   go_wp2_with fail
   go_loopw [11] (fun i wr => ∃ k : Nat, k ≤ L.length ∧ i = .int .i64 k ∧ Hid (Besides g w3 wr ∧ Blk wr g 3 ((spreadL m by_ (L.take k)).map (Value.int .i64)).toArray)) (fun i _ => L.length - (intOf i).toNat)
   case atStart =>
    refine ⟨0, Nat.zero_le _, rfl, ⟨rfl, rfl, rfl, Nat.le_refl _, fun _ _ _ => rfl⟩, ?_⟩
    have : spreadL m by_ (L.take 0) = List.replicate n 0 := by rw [List.take_zero, spreadL_nil, HNI.out]; rfl
    rw [this, show ((List.replicate n (0 : Int)).map (Value.int .i64)).toArray = Array.replicate n (.int .i64 0) by apply Array.ext <;> simp]
    exact HF.out.z
   case round =>
    obtain ⟨k, hk, rfl, hS⟩ := hrel
    by_cases hlt : k < L.length
    · rcases HF.out.v with ⟨_, h0⟩ | ⟨Lb, c', cs, e3, hne, hRow⟩
      · rw [h0] at hlt; exact absurd hlt (by simp)
      · obtain ⟨rfl, rfl⟩ : A3 = some ⟨Lb, 0, none⟩ ∧ k3 = c' := by simpa using e3
        obtain ⟨x, hx⟩ : ∃ x, x = L[k] := ⟨_, rfl⟩
        have hB := hS.out.1.blk hRow.1 hne
        have x0 : wr.cell? ⟨Lb, k, none⟩ = some (.int .i64 x) := by rw [hB.cell, hRow.2.2 k hlt, hx]
        have xl := hB.lt
        have HSp := hide (show SpW w h m ⟨Lb, k, none⟩ x g w3 wr from ⟨hS.out.1.blk HF.out.mo HF.out.ne, x0, xl, HF.out.ne, hne, hS.out.1⟩)
        obtain ⟨T, hT⟩ : ∃ T, T = L.take k := ⟨_, rfl⟩
        have hTk : L.take (k + 1) = T ++ [x] := by rw [List.take_succ_eq_append_getElem hlt, hT, hx]
        have hTl : T.length ≤ 1000 := by rw [hT]; simp; omega
        have HTK := hide hTk
        rw [← hT] at hS
        have hbr : Below w.heap.size w wr := HF.out.b.trans (hS.out.1.toBelow HF.out.le HF.out.b.size)
        have HC := hide (HD.out wr.drew hbr.drew x)
        have HSL := hide (spreadL_len m by_ T)
        have HLT := hide hlt
        have hlI : (k : Int) < (L.length : Int) := by omega
        have hk0 : (0 : Int) ≤ (k : Int) := by omega
        clear hB hRow hx hT hTk hbr e3 x0 xl hlt
        rcases domI_range m by_ x with hd | hd
        · have HDx := hide hd
          have hlt0 : domI m by_ x < 1 := by omega
          have HNO := hide (spreadL_no m by_ T hlt0)
          rw [HDx.out] at HC
          clear hd hlt0
          go_wp2_with fail
          obtain ⟨a0, a1, a2, a3, a4, a5, a6, a7, a8, a9, a10⟩ := (SpW.cells HSp.out).1
          go_region_held3 (fun W => ((W.cell? ⟨w.heap.size, 0, none⟩ = some (.slice h.s m.sT.length h.sc) ∧ W.cell? ⟨w.heap.size, 1, none⟩ = some (.slice h.f m.fT.length h.fc) ∧ W.cell? ⟨w.heap.size, 2, none⟩ = some (.slice h.r m.rT.length h.rc) ∧ W.cell? ⟨w.heap.size, 3, none⟩ = some (.slice h.m m.mT.length h.mc) ∧ W.cell? ⟨w.heap.size, 4, none⟩ = some (.slice h.l m.lT.length h.lc) ∧ W.cell? ⟨w.heap.size, 5, none⟩ = some (.slice h.i m.iT.length h.ic) ∧ W.cell? ⟨w.heap.size, 6, none⟩ = some (.int .i64 m.dT) ∧ W.cell? ⟨w.heap.size, 7, none⟩ = some (.int .i64 m.oT) ∧ W.cell? ⟨w.heap.size, 8, none⟩ = some (.int .i64 m.vT) ∧ W.cell? ⟨w.heap.size, 9, none⟩ = some (.int .i64 m.aT) ∧ W.cell? ⟨w.heap.size, 10, none⟩ = some (.slice h.u m.uT.length h.uc)) ∧ W.cell? ⟨Lb, k, none⟩ = some (.int .i64 x)) ∧ SpW w h m ⟨Lb, k, none⟩ x g w3 W)
           ((with_reducible (first | (go_keep; done) | exact ⟨SpW.cells HSp.out.drew, HSp.out.drew⟩ | exact ⟨SpW.cells c7, c7⟩ | (have hH := (by assumption : _ ∧ SpW _ _ _ _ _ _ _ _); exact ⟨SpW.cells (SpW.drew hH.2), SpW.drew hH.2⟩))))
           (((with_reducible refine HC.out.mono ?_); rintro e w9 ⟨rfl, hb9⟩; have HB5 := hide hb9; have c7 := SpW.grow HSp.out.drew hb9; clear hb9))
          have hb5 := HB5.out
          have HZ := hide (hS.out.2.below ((Below.refl _ _).drew.trans hb5) hS.out.2.lt)
          go_wp2_with fail
          go_roundw
          case rel => exact ⟨k + 1, HLT.out, by go_num, c7.b, by rw [HTK.out, HNO.out]; exact HZ.out⟩
          case measure => have := HLT.out; simp [intOf]; omega
        · obtain ⟨d, hd1, hd2⟩ : ∃ d : Nat, domI m by_ x = (d : Int) + 1 ∧ d < n := ⟨(domI m by_ x - 1).toNat, by omega, by have := HNI.out; omega⟩
          have hds : d < (spreadL m by_ T).length := by rw [HSL.out, HNI.out]; simpa using hd2
          have HYS := hide (spreadL_yes m by_ T hd1 hds)
          have hle := spreadL_le m by_ T hds
          obtain ⟨s, hs⟩ : ∃ s, s = (spreadL m by_ T)[d] := ⟨_, rfl⟩
          rw [← hs] at HYS hle
          have hs0 : 0 ≤ s := hle.1
          have hs1 : s ≤ 1000 := by omega
          have HCL := hide (show ((spreadL m by_ T).map (Value.int .i64)).toArray[d]? = some (.int .i64 s) by simp [hds, hs])
          have hdI : (d : Int) < (n : Int) := by omega
          have hd0 : (0 : Int) ≤ (d : Int) := by omega
          rw [hd1] at HC
          clear hd hd1 hle hs
          go_wp2_with fail
          obtain ⟨a0, a1, a2, a3, a4, a5, a6, a7, a8, a9, a10⟩ := (SpW.cells HSp.out).1
          go_region_held3 (fun W => ((W.cell? ⟨w.heap.size, 0, none⟩ = some (.slice h.s m.sT.length h.sc) ∧ W.cell? ⟨w.heap.size, 1, none⟩ = some (.slice h.f m.fT.length h.fc) ∧ W.cell? ⟨w.heap.size, 2, none⟩ = some (.slice h.r m.rT.length h.rc) ∧ W.cell? ⟨w.heap.size, 3, none⟩ = some (.slice h.m m.mT.length h.mc) ∧ W.cell? ⟨w.heap.size, 4, none⟩ = some (.slice h.l m.lT.length h.lc) ∧ W.cell? ⟨w.heap.size, 5, none⟩ = some (.slice h.i m.iT.length h.ic) ∧ W.cell? ⟨w.heap.size, 6, none⟩ = some (.int .i64 m.dT) ∧ W.cell? ⟨w.heap.size, 7, none⟩ = some (.int .i64 m.oT) ∧ W.cell? ⟨w.heap.size, 8, none⟩ = some (.int .i64 m.vT) ∧ W.cell? ⟨w.heap.size, 9, none⟩ = some (.int .i64 m.aT) ∧ W.cell? ⟨w.heap.size, 10, none⟩ = some (.slice h.u m.uT.length h.uc)) ∧ W.cell? ⟨Lb, k, none⟩ = some (.int .i64 x)) ∧ SpW w h m ⟨Lb, k, none⟩ x g w3 W)
           ((with_reducible (first | (go_keep; done) | exact ⟨SpW.cells HSp.out.drew, HSp.out.drew⟩ | exact ⟨SpW.cells c7, c7⟩ | (have hH := (by assumption : _ ∧ SpW _ _ _ _ _ _ _ _); exact ⟨SpW.cells (SpW.drew hH.2), SpW.drew hH.2⟩))))
           (((with_reducible refine HC.out.mono ?_); rintro e w9 ⟨rfl, hb9⟩; have HB5 := hide hb9; have c7 := SpW.grow HSp.out.drew hb9; clear hb9))
          have hG5 := hS.out.2.below ((Below.refl _ _).drew.trans HB5.out) hS.out.2.lt
          have g0 : w9.cell? ⟨g, d, none⟩ = some (.int .i64 s) := by rw [hG5.cell, HCL.out]
          have gf := hG5.frozen d
          have gl := hG5.lt
          have HG5 := hide hG5
          have HBS := hide c7.b
          clear c7 hG5
          go_wp2_with fail
          go_roundw
          case rel => exact ⟨k + 1, HLT.out, by go_num, HBS.out.trans (Besides.set_ _ _ _), by
           rw [HTK.out, HYS.out]
           have := HG5.out.set_ d (.int .i64 (s + 1))
           simpa [List.map_set] using this⟩
          case measure => have := HLT.out; simp [intOf]; omega
    · obtain rfl : k = L.length := by omega
      have hS := hS.out
      rw [List.take_length] at hS
      have HSx := hide hS
      clear hS
      go_wp2_with fail
      go_ret
      have hlen : (spreadP m p item by_).length = n := by rw [spreadP_eq, spreadL_len, HNI.out]; rfl
      have hx : maxLen = 9223372036854775807 := by decide
      have hsp : spreadP m p item by_ = spreadL m by_ L := by rw [spreadP_eq, HL.out]
      have := RowI.own (B := w.heap.size) (w := wr) (L := g) (c := n) (cs := ((spreadL m by_ L).map (Value.int .i64)).toArray) (l := spreadP m p item by_) ⟨HSx.out.2, by rw [hsp]; simp, fun j hj => by rw [hsp] at hj; simp [hsp, hj]⟩ HF.out.le (by rw [← hlen, hsp]; simp) (by omega)
      rw [hlen] at this
      exact ⟨_, rfl, this, HF.out.b.trans (HSx.out.1.toBelow HF.out.le HF.out.b.size)⟩
 · have hF : SpF w h m n w3.heap.size v3 (machinesP p item 0) (w3.alloc (.cells (Array.replicate n (.int .i64 0)) 3)) := by
     have hb3w := (SpB.b c3).size
     refine ⟨c3.b.alloc hb3w _, c3.m.alloc _, Blk.new w3 _ _, by have := c3.m.lt; omega, hb3w, ?_⟩
     rcases ho3.row with h0 | ⟨Lb, c', cs, e, hLb, hR, _, _⟩
     · exact .inl h0
     · exact .inr ⟨Lb, c', cs, e, by have := Blk.lt hR.1; omega, ⟨hR.1.alloc _, hR.2⟩⟩
   obtain ⟨A3, k3, rfl, _⟩ := ho3.form
   clear c1 c3 hb1 hb3 ho3
   revert hF
   generalize w3.alloc (.cells (Array.replicate n (.int .i64 0)) 3) = w5
   generalize w3.heap.size = g
   intro hF
   obtain ⟨L, hL⟩ : ∃ L, L = machinesP p item 0 := ⟨_, rfl⟩
   have HL := hide hL
   rw [← hL] at hF ⊢
   have hLl : L.length ≤ 1000 := by rw [hL]; exact HML.out
   have HF := hide hF
   clear hL hF
   go_wp2_with fail
   go_loopw [11] (fun i wr => ∃ k : Nat, k ≤ L.length ∧ i = .int .i64 k ∧ Hid (Besides g w5 wr ∧ Blk wr g 3 ((spreadL m by_ (L.take k)).map (Value.int .i64)).toArray)) (fun i _ => L.length - (intOf i).toNat)
   case atStart =>
    refine ⟨0, Nat.zero_le _, rfl, ⟨rfl, rfl, rfl, Nat.le_refl _, fun _ _ _ => rfl⟩, ?_⟩
    have : spreadL m by_ (L.take 0) = List.replicate n 0 := by rw [List.take_zero, spreadL_nil, HNI.out]; rfl
    rw [this, show ((List.replicate n (0 : Int)).map (Value.int .i64)).toArray = Array.replicate n (.int .i64 0) by apply Array.ext <;> simp]
    exact HF.out.z
   case round =>
    obtain ⟨k, hk, rfl, hS⟩ := hrel
    by_cases hlt : k < L.length
    · rcases HF.out.v with ⟨_, h0⟩ | ⟨Lb, c', cs, e3, hne, hRow⟩
      · rw [h0] at hlt; exact absurd hlt (by simp)
      · obtain ⟨rfl, rfl⟩ : A3 = some ⟨Lb, 0, none⟩ ∧ k3 = c' := by simpa using e3
        obtain ⟨x, hx⟩ : ∃ x, x = L[k] := ⟨_, rfl⟩
        have hB := hS.out.1.blk hRow.1 hne
        have x0 : wr.cell? ⟨Lb, k, none⟩ = some (.int .i64 x) := by rw [hB.cell, hRow.2.2 k hlt, hx]
        have xl := hB.lt
        have HSp := hide (show SpW w h m ⟨Lb, k, none⟩ x g w5 wr from ⟨hS.out.1.blk HF.out.mo HF.out.ne, x0, xl, HF.out.ne, hne, hS.out.1⟩)
        obtain ⟨T, hT⟩ : ∃ T, T = L.take k := ⟨_, rfl⟩
        have hTk : L.take (k + 1) = T ++ [x] := by rw [List.take_succ_eq_append_getElem hlt, hT, hx]
        have hTl : T.length ≤ 1000 := by rw [hT]; simp; omega
        have HTK := hide hTk
        rw [← hT] at hS
        have hbr : Below w.heap.size w wr := HF.out.b.trans (hS.out.1.toBelow HF.out.le HF.out.b.size)
        have HC := hide (HD.out wr.drew hbr.drew x)
        have HSL := hide (spreadL_len m by_ T)
        have HLT := hide hlt
        have hlI : (k : Int) < (L.length : Int) := by omega
        have hk0 : (0 : Int) ≤ (k : Int) := by omega
        clear hB hRow hx hT hTk hbr e3 x0 xl hlt
        rcases domI_range m by_ x with hd | hd
        · have HDx := hide hd
          have hlt0 : domI m by_ x < 1 := by omega
          have HNO := hide (spreadL_no m by_ T hlt0)
          rw [HDx.out] at HC
          clear hd hlt0
          go_wp2_with fail
          obtain ⟨a0, a1, a2, a3, a4, a5, a6, a7, a8, a9, a10⟩ := (SpW.cells HSp.out).1
          go_region_held3 (fun W => ((W.cell? ⟨w.heap.size, 0, none⟩ = some (.slice h.s m.sT.length h.sc) ∧ W.cell? ⟨w.heap.size, 1, none⟩ = some (.slice h.f m.fT.length h.fc) ∧ W.cell? ⟨w.heap.size, 2, none⟩ = some (.slice h.r m.rT.length h.rc) ∧ W.cell? ⟨w.heap.size, 3, none⟩ = some (.slice h.m m.mT.length h.mc) ∧ W.cell? ⟨w.heap.size, 4, none⟩ = some (.slice h.l m.lT.length h.lc) ∧ W.cell? ⟨w.heap.size, 5, none⟩ = some (.slice h.i m.iT.length h.ic) ∧ W.cell? ⟨w.heap.size, 6, none⟩ = some (.int .i64 m.dT) ∧ W.cell? ⟨w.heap.size, 7, none⟩ = some (.int .i64 m.oT) ∧ W.cell? ⟨w.heap.size, 8, none⟩ = some (.int .i64 m.vT) ∧ W.cell? ⟨w.heap.size, 9, none⟩ = some (.int .i64 m.aT) ∧ W.cell? ⟨w.heap.size, 10, none⟩ = some (.slice h.u m.uT.length h.uc)) ∧ W.cell? ⟨Lb, k, none⟩ = some (.int .i64 x)) ∧ SpW w h m ⟨Lb, k, none⟩ x g w5 W)
           ((with_reducible (first | (go_keep; done) | exact ⟨SpW.cells HSp.out.drew, HSp.out.drew⟩ | exact ⟨SpW.cells c7, c7⟩ | (have hH := (by assumption : _ ∧ SpW _ _ _ _ _ _ _ _); exact ⟨SpW.cells (SpW.drew hH.2), SpW.drew hH.2⟩))))
           (((with_reducible refine HC.out.mono ?_); rintro e w9 ⟨rfl, hb9⟩; have HB5 := hide hb9; have c7 := SpW.grow HSp.out.drew hb9; clear hb9))
          have hb5 := HB5.out
          have HZ := hide (hS.out.2.below ((Below.refl _ _).drew.trans hb5) hS.out.2.lt)
          go_wp2_with fail
          go_roundw
          case rel => exact ⟨k + 1, HLT.out, by go_num, c7.b, by rw [HTK.out, HNO.out]; exact HZ.out⟩
          case measure => have := HLT.out; simp [intOf]; omega
        · obtain ⟨d, hd1, hd2⟩ : ∃ d : Nat, domI m by_ x = (d : Int) + 1 ∧ d < n := ⟨(domI m by_ x - 1).toNat, by omega, by have := HNI.out; omega⟩
          have hds : d < (spreadL m by_ T).length := by rw [HSL.out, HNI.out]; simpa using hd2
          have HYS := hide (spreadL_yes m by_ T hd1 hds)
          have hle := spreadL_le m by_ T hds
          obtain ⟨s, hs⟩ : ∃ s, s = (spreadL m by_ T)[d] := ⟨_, rfl⟩
          rw [← hs] at HYS hle
          have hs0 : 0 ≤ s := hle.1
          have hs1 : s ≤ 1000 := by omega
          have HCL := hide (show ((spreadL m by_ T).map (Value.int .i64)).toArray[d]? = some (.int .i64 s) by simp [hds, hs])
          have hdI : (d : Int) < (n : Int) := by omega
          have hd0 : (0 : Int) ≤ (d : Int) := by omega
          rw [hd1] at HC
          clear hd hd1 hle hs
          go_wp2_with fail
          obtain ⟨a0, a1, a2, a3, a4, a5, a6, a7, a8, a9, a10⟩ := (SpW.cells HSp.out).1
          go_region_held3 (fun W => ((W.cell? ⟨w.heap.size, 0, none⟩ = some (.slice h.s m.sT.length h.sc) ∧ W.cell? ⟨w.heap.size, 1, none⟩ = some (.slice h.f m.fT.length h.fc) ∧ W.cell? ⟨w.heap.size, 2, none⟩ = some (.slice h.r m.rT.length h.rc) ∧ W.cell? ⟨w.heap.size, 3, none⟩ = some (.slice h.m m.mT.length h.mc) ∧ W.cell? ⟨w.heap.size, 4, none⟩ = some (.slice h.l m.lT.length h.lc) ∧ W.cell? ⟨w.heap.size, 5, none⟩ = some (.slice h.i m.iT.length h.ic) ∧ W.cell? ⟨w.heap.size, 6, none⟩ = some (.int .i64 m.dT) ∧ W.cell? ⟨w.heap.size, 7, none⟩ = some (.int .i64 m.oT) ∧ W.cell? ⟨w.heap.size, 8, none⟩ = some (.int .i64 m.vT) ∧ W.cell? ⟨w.heap.size, 9, none⟩ = some (.int .i64 m.aT) ∧ W.cell? ⟨w.heap.size, 10, none⟩ = some (.slice h.u m.uT.length h.uc)) ∧ W.cell? ⟨Lb, k, none⟩ = some (.int .i64 x)) ∧ SpW w h m ⟨Lb, k, none⟩ x g w5 W)
           ((with_reducible (first | (go_keep; done) | exact ⟨SpW.cells HSp.out.drew, HSp.out.drew⟩ | exact ⟨SpW.cells c7, c7⟩ | (have hH := (by assumption : _ ∧ SpW _ _ _ _ _ _ _ _); exact ⟨SpW.cells (SpW.drew hH.2), SpW.drew hH.2⟩))))
           (((with_reducible refine HC.out.mono ?_); rintro e w9 ⟨rfl, hb9⟩; have HB5 := hide hb9; have c7 := SpW.grow HSp.out.drew hb9; clear hb9))
          have hG5 := hS.out.2.below ((Below.refl _ _).drew.trans HB5.out) hS.out.2.lt
          have g0 : w9.cell? ⟨g, d, none⟩ = some (.int .i64 s) := by rw [hG5.cell, HCL.out]
          have gf := hG5.frozen d
          have gl := hG5.lt
          have HG5 := hide hG5
          have HBS := hide c7.b
          clear c7 hG5
          go_wp2_with fail
          go_roundw
          case rel => exact ⟨k + 1, HLT.out, by go_num, HBS.out.trans (Besides.set_ _ _ _), by
           rw [HTK.out, HYS.out]
           have := HG5.out.set_ d (.int .i64 (s + 1))
           simpa [List.map_set] using this⟩
          case measure => have := HLT.out; simp [intOf]; omega
    · obtain rfl : k = L.length := by omega
      have hS := hS.out
      rw [List.take_length] at hS
      have HSx := hide hS
      clear hS
      go_wp2_with fail
      go_ret
      have hlen : (spreadP m p item by_).length = n := by rw [spreadP_eq, spreadL_len, HNI.out]; rfl
      have hx : maxLen = 9223372036854775807 := by decide
      have hsp : spreadP m p item by_ = spreadL m by_ L := by rw [spreadP_eq, HL.out]
      have := RowI.own (B := w.heap.size) (w := wr) (L := g) (c := n) (cs := ((spreadL m by_ L).map (Value.int .i64)).toArray) (l := spreadP m p item by_) ⟨HSx.out.2, by rw [hsp]; simp, fun j hj => by rw [hsp] at hj; simp [hsp, hj]⟩ HF.out.le (by rw [← hlen, hsp]; simp) (by omega)
      rw [hlen] at this
      exact ⟨_, rfl, this, HF.out.b.trans (HSx.out.1.toBelow HF.out.le HF.out.b.size)⟩
theorem crowded_ref (h : MH) (m : Mod) (x : RuleM) (A : Option Addr) (c : Nat) (Ap : Option Addr) (cp : Nat) (p : PlaceM) (w : World) (d : MD w w.heap.size h m) (hp : PR w w.heap.size Ap p) (hl : p.length ≤ 1000) (hul : (unitsP p x.item).length ≤ 1000) (hd : domsI m x.by_ ≤ 100) :
    Calls Tryz.prog 36 #[.agg #[.slice h.s m.sT.length h.sc, .slice h.f m.fT.length h.fc, .slice h.r m.rT.length h.rc, .slice h.m m.mT.length h.mc, .slice h.l m.lT.length h.lc, .slice h.i m.iT.length h.ic, .int .i64 m.dT, .int .i64 m.oT, .int .i64 m.vT, .int .i64 m.aT, .slice h.u m.uT.length h.uc], .agg #[.int .i64 x.kind, .int .i64 x.item, .int .i64 x.other, .int .i64 x.n, .int .i64 x.by_, .bool x.always, .slice A x.machines.length c], .agg #[.slice Ap p.length cp]] w (AnsB w (.int .i64 (crowdedI m x p))) := by
 obtain ⟨w0, e0⟩ : ∃ w0, w0 = ((w.alloc (.cells #[.slice h.s m.sT.length h.sc, .slice h.f m.fT.length h.fc, .slice h.r m.rT.length h.rc, .slice h.m m.mT.length h.mc, .slice h.l m.lT.length h.lc, .slice h.i m.iT.length h.ic, .int .i64 m.dT, .int .i64 m.oT, .int .i64 m.vT, .int .i64 m.aT, .slice h.u m.uT.length h.uc] 29)).alloc (.cells #[.int .i64 x.kind, .int .i64 x.item, .int .i64 x.other, .int .i64 x.n, .int .i64 x.by_, .bool x.always, .slice A x.machines.length c] 32)).alloc (.cells #[.slice Ap p.length cp] 35) := ⟨_, rfl⟩
 have hb0 : Below w.heap.size w w0 := by rw [e0]; exact (((Below.refl w.heap.size w).alloc (Nat.le_refl _) _).alloc (by simp) _).alloc (by simp; omega) _
 have HR0 := hide (show Blk w0 (w.heap.size + 1) 32 #[.int .i64 x.kind, .int .i64 x.item, .int .i64 x.other, .int .i64 x.n, .int .i64 x.by_, .bool x.always, .slice A x.machines.length c] by
  rw [e0]
  have := (Blk.new (w.alloc (.cells #[.slice h.s m.sT.length h.sc, .slice h.f m.fT.length h.fc, .slice h.r m.rT.length h.rc, .slice h.m m.mT.length h.mc, .slice h.l m.lT.length h.lc, .slice h.i m.iT.length h.ic, .int .i64 m.dT, .int .i64 m.oT, .int .i64 m.vT, .int .i64 m.aT, .slice h.u m.uT.length h.uc] 29)) 32 #[.int .i64 x.kind, .int .i64 x.item, .int .i64 x.other, .int .i64 x.n, .int .i64 x.by_, .bool x.always, .slice A x.machines.length c]).alloc (.cells #[.slice Ap p.length cp] 35)
  simpa using this)
 have HB := hide hb0
 have HS := hide (spread_ref h m Ap cp p x.item x.by_ w0 (d.grow hb0) (hp.grow hb0) hl hul hd)
 have hsl : (spreadP m p x.item x.by_).length ≤ 100 := by rw [spreadP_eq, spreadL_len]; have := domsI_nonneg m x.by_; omega
 have HCR := hide (crowdedI_eq m x p)
 have HE := hide e0
 obtain ⟨L, hL⟩ : ∃ L, L = spreadP m p x.item x.by_ := ⟨_, rfl⟩
 rw [← hL] at HS hsl HCR
 clear hb0 d hp hd hL e0
 go_enter Tryz.func36, Tryz.ntmps36
 go_wp2_with (rw [← HE.out]; go_at_call 24; refine HS.out.mono ?_; rintro e w1 ⟨v1, rfl, ho1, hb1⟩
              obtain ⟨A1, c1, rfl, _, hI1⟩ := ho1.form
              have HR1 := hide (HR0.out.below hb1 HR0.out.lt)
              have HB1 := hide (HB.out.trans (hb1.mono HB.out.size))
              have HI1 := hide hI1
              clear ho1 hb1 hI1)
 clear HR0
 go_loopw [8] (fun i wr => ∃ k : Nat, k ≤ L.length ∧ i = .int .i64 k ∧ Below w1.heap.size w1 wr ∧ Hid (∀ j (hj : j < L.length), j < k → (fun n => decide (x.n < n)) L[j] = false)) (fun i _ => L.length - (intOf i).toNat)
 case atStart => exact ⟨0, Nat.zero_le _, rfl, Below.refl _ _, fun j hj h0 => absurd h0 (by omega)⟩
 case round =>
  obtain ⟨k, hk, rfl, hbr, hs⟩ := hrel
  by_cases hlt : k < L.length
  · obtain ⟨b, off, hA, hb, x0⟩ := int_at HI1.out hlt
    subst hA
    obtain ⟨y, hy⟩ : ∃ y, y = L[k] := ⟨_, rfl⟩
    rw [← hy] at x0
    have HY := hide hy
    have HRB := HR1.out.below hbr HR1.out.lt
    have y3 := HRB.cell 3
    have yl := HRB.lt
    simp at y3
    have z0 := (hbr.cell (p := ⟨b, off + k, none⟩) hb).trans x0
    have zl := Nat.lt_of_lt_of_le hb hbr.size
    have HBR := hide hbr
    have HLT := hide hlt
    have hlI : (k : Int) < (L.length : Int) := by omega
    clear hy HRB x0 hb hbr
    have hB : ∀ b : Bool, b = false ∨ b = true := fun b => by cases b <;> simp
    rcases hB (decide (x.n < y)) with hq | hq
    · have HQ := hide hq
      go_wp2_with fail
      go_quiet (fail)
      go_wp2_with fail
      go_roundw
      case rel => exact ⟨k + 1, HLT.out, by go_num, below_drawn HBR.out _, fun j hj h1 => by
       rcases Nat.lt_or_ge j k with h2 | h2
       · exact hs.out j hj h2
       · obtain rfl : j = k := by omega
         rw [← HY.out]; exact HQ.out⟩
      case measure => have := HLT.out; simp [intOf]; omega
    · have HF := hide (firstI_at (p := fun n => decide (x.n < n)) hlt (by rw [← HY.out]; exact hq) hs.out)
      go_wp2_with fail
      go_quiet (fail)
      go_wp2_with fail
      go_ret
      exact ⟨ret_congr (by rw [HCR.out, HF.out]; rfl), HB1.out.trans ((below_drawn HBR.out _).mono HB1.out.size)⟩
  · have HF := hide (firstI_none (p := fun n => decide (x.n < n)) fun j hj => hs.out j hj (by omega))
    obtain rfl : k = L.length := by omega
    go_wp2_with fail
    go_ret
    exact ⟨ret_congr (by rw [HCR.out, HF.out]; rfl), HB1.out.trans (hbr.mono HB1.out.size)⟩
end Go.Proofs.YtlnjaemdelnceaaGreatDoor
