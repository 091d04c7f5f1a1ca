/- A part of the claim: see its last text. -/
import Derived.Test.YtlnjaemdelnceaaGreatDoorUK40
import Derived.Test.YtlnjaemdelnceaaGreatDoorUK31
import Derived.Test.YtlnjaemdelnceaaGreatDoorUK42
import Derived.BigRegion

set_option maxRecDepth 100000
set_option maxHeartbeats 16000000
namespace Go.Proofs.YtlnjaemdelnceaaGreatDoor
open Go Go.RowKit Go.Proofs
theorem newVio2 (w : World) {n : Nat} (hn : w.heap.size = n) (b : VioM) : Reads (w.alloc (.cells #[.int .i64 b.kind, .int .i64 b.rule, .int .i64 b.time, .int .i64 b.by_, .int .i64 b.num, .int .i64 b.item, .int .i64 b.at_] 54)) (n + 1) 7 (some ⟨n, 0, none⟩) 1 (vioCells [b]) := by
 subst hn; exact newVio w b
theorem blkNe {W : World} {g g' : Nat} {T T' : TypeId} {cs cs' : Array Value} (h : Blk W g T cs) (h' : Blk W g' T' cs') (hne : T ≠ T') : g ≠ g' := fun e => by
 subst e
 rw [Blk] at h h'
 rw [h] at h'
 simp at h'
 exact hne h'.2
structure InV (w : World) (M P X : Array Value) (bx : Nat) (A : Option Addr) (c : Nat) (L : List (Int × Int)) (v : Value) (l : List VioM) (bv : Nat) (cs : Array Value) (W : World) : Prop where
 f : InF w M P X bx A c L v l W
 vb : Blk W bv 54 cs
 ne : v.ownBlock ≠ some bv
 le : w.heap.size ≤ bv
theorem InV.grow {w : World} {M P X : Array Value} {bx : Nat} {A : Option Addr} {c : Nat} {L : List (Int × Int)} {v : Value} {l : List VioM} {bv : Nat} {cs : Array Value} {W W2 : World} (s : InV w M P X bx A c L v l bv cs W) (hb : Below W.heap.size W W2) : InV w M P X bx A c L v l bv cs W2 := ⟨s.f.grow hb, s.vb.below hb s.vb.lt, s.ne, s.le⟩
theorem OVi.keepB {B : Nat} {w w' : World} {v : Value} {l : List VioM} (h : OVi B w v l) (h3 : ∀ g cur, v.ownBlock = some g → Blk w g 54 cur → Blk w' g 54 cur) : OVi B w' v l := by
 refine ⟨h.1, ?_⟩
 rcases h.2 with h0 | ⟨g, cap, cur, e, hb, hh, h4⟩
 · exact .inl h0
 · exact .inr ⟨g, cap, cur, e, hb, h3 _ _ (by rw [e]; rfl) hh, h4⟩
theorem InV.set_ {w : World} {M P X : Array Value} {bx : Nat} {A : Option Addr} {c : Nat} {L : List (Int × Int)} {v : Value} {l : List VioM} {bv : Nat} {cs : Array Value} {W : World} (s : InV w M P X bx A c L v l bv cs W) (i : Nat) (u : Value) : InV w M P X bx A c L v l bv (cs.setIfInBounds i u) (W.setCell ⟨bv, i, none⟩ u) :=
 ⟨⟨⟨⟨s.f.s.s.m.far (blkNe s.f.s.s.m s.vb (by decide)) _, s.f.s.s.p.far (blkNe s.f.s.s.p s.vb (by decide)) _, s.f.s.s.b.setCell s.le _⟩, s.f.s.o.keepB fun g cur e hB => hB.far (fun e2 => s.ne (by rw [e]; exact congrArg some e2)) _⟩,
   s.f.x.far (blkNe s.f.x s.vb (by decide)) _, s.f.f.keepB fun g cur _ hB => hB.far (blkNe hB s.vb (by decide)) _⟩, s.vb.set_ i u, s.ne, s.le⟩
def InG (w : World) (M P X : Array Value) (bx : Nat) (A : Option Addr) (c : Nat) (L : List (Int × Int)) (v : Value) (l : List VioM) (b o : Nat) (fa fb : Int) (W : World) : Prop :=
 InF w M P X bx A c L v l W ∧ W.cell? ⟨b, o, none⟩ = some (.int .i64 fa) ∧ W.cell? ⟨b, o + 1, none⟩ = some (.int .i64 fb) ∧ b < W.heap.size
theorem InG.grow {w : World} {M P X : Array Value} {bx : Nat} {A : Option Addr} {c : Nat} {L : List (Int × Int)} {v : Value} {l : List VioM} {b o : Nat} {fa fb : Int} {W W2 : World} (s : InG w M P X bx A c L v l b o fa fb W) (hb : Below W.heap.size W W2) : InG w M P X bx A c L v l b o fa fb W2 :=
 ⟨s.1.grow hb, (hb.cell (p := ⟨b, o, none⟩) s.2.2.2).trans s.2.1, (hb.cell (p := ⟨b, o + 1, none⟩) s.2.2.2).trans s.2.2.1, Nat.lt_of_lt_of_le s.2.2.2 hb.size⟩
theorem InG.drew {w : World} {M P X : Array Value} {bx : Nat} {A : Option Addr} {c : Nat} {L : List (Int × Int)} {v : Value} {l : List VioM} {b o : Nat} {fa fb : Int} {W : World} (s : InG w M P X bx A c L v l b o fa fb W) : InG w M P X bx A c L v l b o fa fb W.drew := s.grow (Below.refl _ W).drew
theorem InG.cells {w : World} {h : MH} {m : Mod} {x : RuleM} {A2 Ap : Option Addr} {c2 kp cp : Nat} {bx : Nat} {A : Option Addr} {c : Nat} {L : List (Int × Int)} {v : Value} {l : List VioM} {b o : Nat} {fa fb : Int} {W : World} (s : InG w #[.slice h.s m.sT.length h.sc, .slice h.f m.fT.length h.fc, .slice h.r m.rT.length h.rc, .slice h.m m.mT.length h.mc, .slice h.l m.lT.length h.lc, .slice h.i m.iT.length h.ic, .int .i64 m.dT, .int .i64 m.oT, .int .i64 m.vT, .int .i64 m.aT, .slice h.u m.uT.length h.uc] #[.slice Ap kp cp] #[.int .i64 x.kind, .int .i64 x.item, .int .i64 x.other, .int .i64 x.n, .int .i64 x.by_, .bool x.always, .slice A2 x.machines.length c2] bx A c L v l b o fa fb W) :
    (W.cell? ⟨w.heap.size, 0, none⟩ = some (.slice h.s m.sT.length h.sc) ∧ W.cell? ⟨w.heap.size, 1, none⟩ = some (.slice h.f m.fT.length h.fc) ∧ W.cell? ⟨w.heap.size, 2, none⟩ = some (.slice h.r m.rT.length h.rc) ∧ W.cell? ⟨w.heap.size, 3, none⟩ = some (.slice h.m m.mT.length h.mc) ∧ W.cell? ⟨w.heap.size, 4, none⟩ = some (.slice h.l m.lT.length h.lc) ∧ W.cell? ⟨w.heap.size, 5, none⟩ = some (.slice h.i m.iT.length h.ic) ∧ W.cell? ⟨w.heap.size, 6, none⟩ = some (.int .i64 m.dT) ∧ W.cell? ⟨w.heap.size, 7, none⟩ = some (.int .i64 m.oT) ∧ W.cell? ⟨w.heap.size, 8, none⟩ = some (.int .i64 m.vT) ∧ W.cell? ⟨w.heap.size, 9, none⟩ = some (.int .i64 m.aT) ∧ W.cell? ⟨w.heap.size, 10, none⟩ = some (.slice h.u m.uT.length h.uc)) ∧ (W.cell? ⟨bx, 0, none⟩ = some (.int .i64 x.kind) ∧ W.cell? ⟨bx, 1, none⟩ = some (.int .i64 x.item) ∧ W.cell? ⟨bx, 2, none⟩ = some (.int .i64 x.other) ∧ W.cell? ⟨bx, 3, none⟩ = some (.int .i64 x.n) ∧ W.cell? ⟨bx, 4, none⟩ = some (.int .i64 x.by_) ∧ W.cell? ⟨bx, 5, none⟩ = some (.bool x.always) ∧ W.cell? ⟨bx, 6, none⟩ = some (.slice A2 x.machines.length c2)) ∧ W.cell? ⟨w.heap.size + 1, 0, none⟩ = some (.slice Ap kp cp) ∧ W.cell? ⟨b, o, none⟩ = some (.int .i64 fa) ∧ W.cell? ⟨b, o + 1, none⟩ = some (.int .i64 fb) :=
 ⟨MB.cells s.1.s.s.m, ⟨s.1.x.cell 0, s.1.x.cell 1, s.1.x.cell 2, s.1.x.cell 3, s.1.x.cell 4, s.1.x.cell 5, s.1.x.cell 6⟩, s.1.s.s.p.cell 0, s.2.1, s.2.2.1⟩
theorem InG.cellsU {w : World} {h : MH} {m : Mod} {x : RuleM} {A2 Ap : Option Addr} {c2 kp cp : Nat} {bx : Nat} {A : Option Addr} {c : Nat} {L : List (Int × Int)} {v : Value} {l : List VioM} {b o bu ou : Nat} {fa fb : Int} {W : World} (hA : h.u = some ⟨bu, ou, none⟩) (s : InG w #[.slice h.s m.sT.length h.sc, .slice h.f m.fT.length h.fc, .slice h.r m.rT.length h.rc, .slice h.m m.mT.length h.mc, .slice h.l m.lT.length h.lc, .slice h.i m.iT.length h.ic, .int .i64 m.dT, .int .i64 m.oT, .int .i64 m.vT, .int .i64 m.aT, .slice h.u m.uT.length h.uc] #[.slice Ap kp cp] #[.int .i64 x.kind, .int .i64 x.item, .int .i64 x.other, .int .i64 x.n, .int .i64 x.by_, .bool x.always, .slice A2 x.machines.length c2] bx A c L v l b o fa fb W) :
    (W.cell? ⟨w.heap.size, 0, none⟩ = some (.slice h.s m.sT.length h.sc) ∧ W.cell? ⟨w.heap.size, 1, none⟩ = some (.slice h.f m.fT.length h.fc) ∧ W.cell? ⟨w.heap.size, 2, none⟩ = some (.slice h.r m.rT.length h.rc) ∧ W.cell? ⟨w.heap.size, 3, none⟩ = some (.slice h.m m.mT.length h.mc) ∧ W.cell? ⟨w.heap.size, 4, none⟩ = some (.slice h.l m.lT.length h.lc) ∧ W.cell? ⟨w.heap.size, 5, none⟩ = some (.slice h.i m.iT.length h.ic) ∧ W.cell? ⟨w.heap.size, 6, none⟩ = some (.int .i64 m.dT) ∧ W.cell? ⟨w.heap.size, 7, none⟩ = some (.int .i64 m.oT) ∧ W.cell? ⟨w.heap.size, 8, none⟩ = some (.int .i64 m.vT) ∧ W.cell? ⟨w.heap.size, 9, none⟩ = some (.int .i64 m.aT) ∧ W.cell? ⟨w.heap.size, 10, none⟩ = some (.slice (some ⟨bu, ou, none⟩) m.uT.length h.uc)) ∧ (W.cell? ⟨bx, 0, none⟩ = some (.int .i64 x.kind) ∧ W.cell? ⟨bx, 1, none⟩ = some (.int .i64 x.item) ∧ W.cell? ⟨bx, 2, none⟩ = some (.int .i64 x.other) ∧ W.cell? ⟨bx, 3, none⟩ = some (.int .i64 x.n) ∧ W.cell? ⟨bx, 4, none⟩ = some (.int .i64 x.by_) ∧ W.cell? ⟨bx, 5, none⟩ = some (.bool x.always) ∧ W.cell? ⟨bx, 6, none⟩ = some (.slice A2 x.machines.length c2)) ∧ W.cell? ⟨w.heap.size + 1, 0, none⟩ = some (.slice Ap kp cp) ∧ W.cell? ⟨b, o, none⟩ = some (.int .i64 fa) ∧ W.cell? ⟨b, o + 1, none⟩ = some (.int .i64 fb) := by
 have h1 := s.cells
 rw [hA] at h1
 exact h1
theorem instant_ref (h : MH) (m : Mod) (Ap : Option Addr) (cp : Nat) (p : PlaceM) (time : Int) (w : World) (d : MD w w.heap.size h m) (F : FewM m) (hrl : m.uT.length ≤ 1000) (hml : ∀ x ∈ m.uT, x.machines.length ≤ 9223372036854775807) (hp : PR w w.heap.size Ap p) (hl : p.length ≤ 1000) (hul : ∀ i, (unitsP p i).length ≤ 1000) :
    Calls Tryz.prog 18 #[.agg #[.slice h.s m.sT.length h.sc, .slice h.f m.fT.length h.fc, .slice h.r m.rT.length h.rc, .slice h.m m.mT.length h.mc, .slice h.l m.lT.length h.lc, .slice h.i m.iT.length h.ic, .int .i64 m.dT, .int .i64 m.oT, .int .i64 m.vT, .int .i64 m.aT, .slice h.u m.uT.length h.uc], .agg #[.slice Ap p.length cp], .int .i64 time] w (fun e w' => ∃ v, e = .returned v ∧ OVi w.heap.size w' v (instantM m p time) ∧ Below w.heap.size w w') := by
 have HM0 := MPB.start w #[.slice h.s m.sT.length h.sc, .slice h.f m.fT.length h.fc, .slice h.r m.rT.length h.rc, .slice h.m m.mT.length h.mc, .slice h.l m.lT.length h.lc, .slice h.i m.iT.length h.ic, .int .i64 m.dT, .int .i64 m.oT, .int .i64 m.vT, .int .i64 m.aT, .slice h.u m.uT.length h.uc] #[.slice Ap p.length cp]
 have hba := (Below.refl ((w.alloc (.cells #[.slice h.s m.sT.length h.sc, .slice h.f m.fT.length h.fc, .slice h.r m.rT.length h.rc, .slice h.m m.mT.length h.mc, .slice h.l m.lT.length h.lc, .slice h.i m.iT.length h.ic, .int .i64 m.dT, .int .i64 m.oT, .int .i64 m.vT, .int .i64 m.aT, .slice h.u m.uT.length h.uc] 29)).alloc (.cells #[.slice Ap p.length cp] 35)).heap.size ((w.alloc (.cells #[.slice h.s m.sT.length h.sc, .slice h.f m.fT.length h.fc, .slice h.r m.rT.length h.rc, .slice h.m m.mT.length h.mc, .slice h.l m.lT.length h.lc, .slice h.i m.iT.length h.ic, .int .i64 m.dT, .int .i64 m.oT, .int .i64 m.vT, .int .i64 m.aT, .slice h.u m.uT.length h.uc] 29)).alloc (.cells #[.slice Ap p.length cp] 35))).alloc (Nat.le_refl _) (.cells #[] 54)
 have HS := hide (show InS w #[.slice h.s m.sT.length h.sc, .slice h.f m.fT.length h.fc, .slice h.r m.rT.length h.rc, .slice h.m m.mT.length h.mc, .slice h.l m.lT.length h.lc, .slice h.i m.iT.length h.ic, .int .i64 m.dT, .int .i64 m.oT, .int .i64 m.vT, .int .i64 m.aT, .slice h.u m.uT.length h.uc] #[.slice Ap p.length cp] (.slice (some ⟨w.heap.size + 1 + 1, 0, none⟩) 0 0) [] _ from ⟨HM0.grow hba, by have := OVi.empty ((w.alloc (.cells #[.slice h.s m.sT.length h.sc, .slice h.f m.fT.length h.fc, .slice h.r m.rT.length h.rc, .slice h.m m.mT.length h.mc, .slice h.l m.lT.length h.lc, .slice h.i m.iT.length h.ic, .int .i64 m.dT, .int .i64 m.oT, .int .i64 m.vT, .int .i64 m.aT, .slice h.u m.uT.length h.uc] 29)).alloc (.cells #[.slice Ap p.length cp] 35)) HM0.b.size; simpa using this⟩)
 have HD := hide (fun W (hW : Below w.heap.size w W) => And.intro (d.grow hW) (hp.grow hW))
 have HFA := hide (fun (x : RuleM) A2 c2 W => failures_ref h m F x A2 c2 W)
 have HDM := hide (fun (x : RuleM) => F.doms x.by_)
 have HF := hide F
 have HML := hide hml
 have HUL := hide hul
 have hB2 : ∀ b : Bool, b = false ∨ b = true := fun b => by cases b <;> simp
 clear d F hml hp hul HM0 hba
 go_enter Tryz.func18, Tryz.ntmps18
 go_wp2_with fail
 go_loopw [7, 8] (fun v i wr => InO m p time w #[.slice h.s m.sT.length h.sc, .slice h.f m.fT.length h.fc, .slice h.r m.rT.length h.rc, .slice h.m m.mT.length h.mc, .slice h.l m.lT.length h.lc, .slice h.i m.iT.length h.ic, .int .i64 m.dT, .int .i64 m.oT, .int .i64 m.vT, .int .i64 m.aT, .slice h.u m.uT.length h.uc] #[.slice Ap p.length cp] v i wr) (fun _ i _ => m.uT.length - (intOf i).toNat)
 case atStart => exact ⟨0, Nat.zero_le _, rfl, HS⟩
 case round =>
  clear HS
  obtain ⟨k, hk, rfl, hS⟩ := hrel
  obtain ⟨a0, a1, a2, a3, a4, a5, a6, a7, a8, a9, a10⟩ := MB.cells hS.out.s.m
  have ml0 := hS.out.s.m.lt
  by_cases hlt : k < m.uT.length
  · obtain ⟨bu, ou, A2, c2, hA, hbu, t0, t1, t2, t3, t4, t5, t6, hc2, hcm2, hI2⟩ := (HD.out w (Below.refl _ _)).1.dU.rule hlt
    have hbr := hS.out.s.b
    have u0 := (hbr.cell (p := ⟨bu, ou + k * 7, none⟩) hbu).trans t0
    have u1 := (hbr.cell (p := ⟨bu, ou + k * 7 + 1, none⟩) hbu).trans t1
    have u2 := (hbr.cell (p := ⟨bu, ou + k * 7 + 2, none⟩) hbu).trans t2
    have u3 := (hbr.cell (p := ⟨bu, ou + k * 7 + 3, none⟩) hbu).trans t3
    have u4 := (hbr.cell (p := ⟨bu, ou + k * 7 + 4, none⟩) hbu).trans t4
    have u5 := (hbr.cell (p := ⟨bu, ou + k * 7 + 5, none⟩) hbu).trans t5
    have u6 := (hbr.cell (p := ⟨bu, ou + k * 7 + 6, none⟩) hbu).trans t6
    have hbul := Nat.lt_of_lt_of_le hbu hbr.size
    clear t0 t1 t2 t3 t4 t5 t6 hbr
    have HIS := hide (instTo_succ m p time hlt)
    have hxm := HML.out _ (List.getElem_mem hlt)
    obtain ⟨x, hx⟩ : ∃ x, x = m.uT[k] := ⟨_, rfl⟩
    rw [← hx] at u0 u1 u2 u3 u4 u5 u6 HIS hI2 hxm hc2
    have HTL := hide (instTo_len HF.out p time k)
    have HFL := hide (failuresR_len HF.out x)
    obtain ⟨L, hL⟩ : ∃ L, L = failuresR m x := ⟨_, rfl⟩
    have HLE := hide hL
    obtain ⟨T, hT⟩ : ∃ T, T = instTo m p time k := ⟨_, rfl⟩
    have HTE := hide hT
    rw [← hT] at hS HTL HIS
    rw [← hL] at HFL HIS
    have hkI : (k : Int) < (m.uT.length : Int) := by omega
    have HBX := hide ((Below.refl wr.heap.size wr).alloc (Nat.le_refl _) (.cells #[.int .i64 x.kind, .int .i64 x.item, .int .i64 x.other, .int .i64 x.n, .int .i64 x.by_, .bool x.always, .slice A2 x.machines.length c2] 32))
    have HX0 := hide (Blk.new wr 32 #[.int .i64 x.kind, .int .i64 x.item, .int .i64 x.other, .int .i64 x.n, .int .i64 x.by_, .bool x.always, .slice A2 x.machines.length c2])
    have HSX := hide (hS.out.grow HBX.out)
    have HCI := hide (fun W (hW : Below w.heap.size w W) => hI2.grow hW)
    have HFX := hide (HFA.out x A2 c2 (wr.alloc (.cells #[.int .i64 x.kind, .int .i64 x.item, .int .i64 x.other, .int .i64 x.n, .int .i64 x.by_, .bool x.always, .slice A2 x.machines.length c2] 32)))
    rw [← hL] at HFX
    have HCR := hide (fun W (hW : Below w.heap.size w W) (hu : (unitsP p x.item).length ≤ 1000) => (⟨(HD.out W hW).1, HCI.out W hW, hxm, (HD.out W hW).2, hl, hu, HDM.out x⟩ : CondR W h m x A2 Ap p))
    rw [hA] at HFX a10
    have HA := hide hA
    have HHO := hide (fun W (hW : Below w.heap.size w W) (f : Int × Int) => holds22_ref h m x A2 c2 Ap cp p f W (HCR.out W hW (HUL.out _)))
    have HCW := hide (fun W (hW : Below w.heap.size w W) => crowded_ref h m x A2 c2 Ap cp p W (HD.out W hW).1 (HD.out W hW).2 hl (HUL.out _) (HDM.out x))
    have HEL := hide (fun W (hW : Below w.heap.size w W) => elsewhere_ref x A2 c2 Ap cp p W (HD.out W hW).2 hl (HUL.out _) (HCI.out W hW) hxm)
    rw [hA] at HHO HCW
    obtain ⟨wo, rfl⟩ : ∃ wo : World, wo = wr := ⟨_, rfl⟩
    clear hx hL hT hI2 hA hS
    go_wp2_with (go_at_call 15; (with_reducible refine HFX.out.mono ?_); rintro e w2 ⟨v2, rfl, ho2, hb2⟩
                 obtain ⟨A3, c3, rfl, hfr, hlf⟩ := ho2.form
                 have HIF := hide (show InF w #[.slice h.s m.sT.length h.sc, .slice h.f m.fT.length h.fc, .slice h.r m.rT.length h.rc, .slice h.m m.mT.length h.mc, .slice h.l m.lT.length h.lc, .slice h.i m.iT.length h.ic, .int .i64 m.dT, .int .i64 m.oT, .int .i64 m.vT, .int .i64 m.aT, .slice h.u m.uT.length h.uc] #[.slice Ap p.length cp] #[.int .i64 x.kind, .int .i64 x.item, .int .i64 x.other, .int .i64 x.n, .int .i64 x.by_, .bool x.always, .slice A2 x.machines.length c2] wo.heap.size A3 c3 L u7 (T ++ instF m p time k x 0) w2 from ⟨by rw [instF_zero, List.append_nil]; exact HSX.out.grow hb2, HX0.out.below hb2 HX0.out.lt, own_lowerF ho2 HSX.out.s.b.size⟩)
                 clear ho2 hb2 hfr hlf)
    have HKK := hide (And.intro hlt hkI)
    clear u0 u1 u2 u3 u4 u5 u6 hbul a0 a1 a2 a3 a4 a5 a6 a7 a8 a9 a10 ml0 hbu
    have hwk : IntKind.i64.wrap ((k : Int) + 1) = (k : Int) + 1 := by rw [IntKind.wrap_i64]; omega
    have hLl : L.length ≤ 401 := HFL.out
    go_loopw [7, 11] (fun v i wr => InI m p time w #[.slice h.s m.sT.length h.sc, .slice h.f m.fT.length h.fc, .slice h.r m.rT.length h.rc, .slice h.m m.mT.length h.mc, .slice h.l m.lT.length h.lc, .slice h.i m.iT.length h.ic, .int .i64 m.dT, .int .i64 m.oT, .int .i64 m.vT, .int .i64 m.aT, .slice h.u m.uT.length h.uc] #[.slice Ap p.length cp] #[.int .i64 x.kind, .int .i64 x.item, .int .i64 x.other, .int .i64 x.n, .int .i64 x.by_, .bool x.always, .slice A2 x.machines.length c2] wo.heap.size A3 c3 L T k x v i wr) (fun _ i _ => L.length - (intOf i).toNat)
    case atStart => exact ⟨0, Nat.zero_le _, rfl, HIF⟩
    case round =>
     clear HIF
     obtain ⟨q, hq, rfl, hF⟩ := hrel
     by_cases hlq : q < L.length
     · obtain ⟨bf, of_, hAf, hbf, f0, f1⟩ := hF.out.fr.at_ hlq
       subst hAf
       obtain ⟨⟨fa, fb⟩, hf⟩ : ∃ f, f = L[q] := ⟨_, rfl⟩
       rw [← hf] at f0 f1
       dsimp only at f0 f1
       have HV := hide (show instF m p time k x (q + 1) = instF m p time k x q ++ vioOf m p time k x (fa, fb) by
        have e := HLE.out
        subst e
        rw [instF_succ m p time k x hlq, hf])
       have HG := hide (show InG w #[.slice h.s m.sT.length h.sc, .slice h.f m.fT.length h.fc, .slice h.r m.rT.length h.rc, .slice h.m m.mT.length h.mc, .slice h.l m.lT.length h.lc, .slice h.i m.iT.length h.ic, .int .i64 m.dT, .int .i64 m.oT, .int .i64 m.vT, .int .i64 m.aT, .slice h.u m.uT.length h.uc] #[.slice Ap p.length cp] #[.int .i64 x.kind, .int .i64 x.item, .int .i64 x.other, .int .i64 x.n, .int .i64 x.by_, .bool x.always, .slice A2 x.machines.length c2] wo.heap.size (some ⟨bf, of_, none⟩) c3 L u7 (T ++ instF m p time k x q) bf (of_ + q * 2) fa fb wr from ⟨hF.out, f0, f1, hbf⟩)
       have hqI : (q : Int) < (L.length : Int) := by omega
       have HLQ := hide hlq
       have HWX := fun W (hW : Below w.heap.size w W) => HHO.out W hW (fa, fb)
       dsimp only at HWX
       have HLN := hide (show (T ++ instF m p time k x q).length + 1 ≤ 1000000 by
        have h1 := HTL.out
        have h2 := instF_len m p time k x q
        have h3 := HFL.out
        rw [List.length_append]
        have : k * 401 ≤ 1000 * 401 := Nat.mul_le_mul_right _ (by omega)
        omega)
       clear hf hF hlq f0 f1
       go_wp2_with fail
       obtain ⟨hb1, hbe⟩ : ∃ b1, b1 = holdsR m x p (fa, fb) := ⟨_, rfl⟩
       rw [← hbe] at HWX
       have HWX := hide HWX
       have HBE := hide hbe
       clear hbe
       (go_region_held3 (fun W => ((W.cell? ⟨w.heap.size, 0, none⟩ = some (.slice h.s m.sT.length h.sc) ∧ W.cell? ⟨w.heap.size, 1, none⟩ = some (.slice h.f m.fT.length h.fc) ∧ W.cell? ⟨w.heap.size, 2, none⟩ = some (.slice h.r m.rT.length h.rc) ∧ W.cell? ⟨w.heap.size, 3, none⟩ = some (.slice h.m m.mT.length h.mc) ∧ W.cell? ⟨w.heap.size, 4, none⟩ = some (.slice h.l m.lT.length h.lc) ∧ W.cell? ⟨w.heap.size, 5, none⟩ = some (.slice h.i m.iT.length h.ic) ∧ W.cell? ⟨w.heap.size, 6, none⟩ = some (.int .i64 m.dT) ∧ W.cell? ⟨w.heap.size, 7, none⟩ = some (.int .i64 m.oT) ∧ W.cell? ⟨w.heap.size, 8, none⟩ = some (.int .i64 m.vT) ∧ W.cell? ⟨w.heap.size, 9, none⟩ = some (.int .i64 m.aT) ∧ W.cell? ⟨w.heap.size, 10, none⟩ = some (.slice (some ⟨bu, ou, none⟩) m.uT.length h.uc)) ∧ (W.cell? ⟨wo.heap.size, 0, none⟩ = some (.int .i64 x.kind) ∧ W.cell? ⟨wo.heap.size, 1, none⟩ = some (.int .i64 x.item) ∧ W.cell? ⟨wo.heap.size, 2, none⟩ = some (.int .i64 x.other) ∧ W.cell? ⟨wo.heap.size, 3, none⟩ = some (.int .i64 x.n) ∧ W.cell? ⟨wo.heap.size, 4, none⟩ = some (.int .i64 x.by_) ∧ W.cell? ⟨wo.heap.size, 5, none⟩ = some (.bool x.always) ∧ W.cell? ⟨wo.heap.size, 6, none⟩ = some (.slice A2 x.machines.length c2)) ∧ W.cell? ⟨w.heap.size + 1, 0, none⟩ = some (.slice Ap p.length cp) ∧ W.cell? ⟨bf, of_ + q * 2, none⟩ = some (.int .i64 fa) ∧ W.cell? ⟨bf, of_ + q * 2 + 1, none⟩ = some (.int .i64 fb)) ∧ InG w #[.slice h.s m.sT.length h.sc, .slice h.f m.fT.length h.fc, .slice h.r m.rT.length h.rc, .slice h.m m.mT.length h.mc, .slice h.l m.lT.length h.lc, .slice h.i m.iT.length h.ic, .int .i64 m.dT, .int .i64 m.oT, .int .i64 m.vT, .int .i64 m.aT, .slice h.u m.uT.length h.uc] #[.slice Ap p.length cp] #[.int .i64 x.kind, .int .i64 x.item, .int .i64 x.other, .int .i64 x.n, .int .i64 x.by_, .bool x.always, .slice A2 x.machines.length c2] wo.heap.size (some ⟨bf, of_, none⟩) c3 L u7 (T ++ instF m p time k x q) bf (of_ + q * 2) fa fb W) ((with_reducible (first | (go_keep; done) | exact ⟨InG.cellsU HA.out HG.out.drew, HG.out.drew⟩ | exact ⟨InG.cellsU HA.out c7, c7⟩ | (have hH := (by assumption : _ ∧ InG _ _ _ _ _ _ _ _ _ _ _ _ _ _ _); exact ⟨InG.cellsU HA.out (InG.drew hH.2), InG.drew hH.2⟩)))) ((go_at_call 12; have hbw := HG.out.drew.1.s.s.b; (with_reducible refine (HWX.out _ hbw).mono ?_); rintro e w5 ⟨rfl, hb5⟩; have c7 := InG.grow HG.out.drew hb5; clear hb5 hbw)))
       have HG5 := hide c7
       clear c7
       cases hb1
       · obtain ⟨⟨a0, a1, a2, a3, a4, a5, a6, a7, a8, a9, a10⟩, ⟨d0, d1, d2, d3, d4, d5, d6⟩, p0, f0, f1⟩ := InG.cellsU HA.out HG5.out
         have xl := HG5.out.1.x.lt
         have fl : bf < w5.heap.size := HG5.out.2.2.2
         clear a0 a1 a2 a3 a4 a5 a6 a7 a8 a9 a10 p0 d2 d3 d4 d5 d6
         go_wp2_with fail
         go_region
         obtain ⟨w6, hw6⟩ : ∃ w6, w6 = (w5.alloc (.cells #[.int .i64 x.kind, .int .i64 ((k : Int) + 1), .int .i64 time, .int .i64 fa, .int .i64 fb, .int .i64 x.item, .int .i64 0] 54)).drew := ⟨_, rfl⟩
         have HI6 := hide (show InV w #[.slice h.s m.sT.length h.sc, .slice h.f m.fT.length h.fc, .slice h.r m.rT.length h.rc, .slice h.m m.mT.length h.mc, .slice h.l m.lT.length h.lc, .slice h.i m.iT.length h.ic, .int .i64 m.dT, .int .i64 m.oT, .int .i64 m.vT, .int .i64 m.aT, .slice h.u m.uT.length h.uc] #[.slice Ap p.length cp] #[.int .i64 x.kind, .int .i64 x.item, .int .i64 x.other, .int .i64 x.n, .int .i64 x.by_, .bool x.always, .slice A2 x.machines.length c2] wo.heap.size (some ⟨bf, of_, none⟩) c3 L u7 (T ++ instF m p time k x q) w5.heap.size #[.int .i64 x.kind, .int .i64 ((k : Int) + 1), .int .i64 time, .int .i64 fa, .int .i64 fb, .int .i64 x.item, .int .i64 0] w6 from by
          rw [hw6]
          exact ⟨HG5.out.1.grow (((Below.refl w5.heap.size w5).alloc (Nat.le_refl _) _).drew), (Blk.new w5 _ _).drew, fun e => absurd (HG5.out.1.s.o.lt _ e).2 (by omega), HG5.out.1.s.s.b.size⟩)
         rw [← hw6]
         have hM6 := MB.cells HI6.out.f.s.s.m
         rw [HA.out] at hM6
         obtain ⟨a0, a1, a2, a3, a4, a5, a6, a7, a8, a9, a10⟩ := hM6
         have b0 := HI6.out.f.x.cell 0
         have b1 := HI6.out.f.x.cell 1
         have b2 := HI6.out.f.x.cell 2
         have b3 := HI6.out.f.x.cell 3
         have b4 := HI6.out.f.x.cell 4
         have b5 := HI6.out.f.x.cell 5
         have b6 := HI6.out.f.x.cell 6
         have p0 := HI6.out.f.s.s.p.cell 0
         have n0 := HI6.out.vb.cell 0
         have n1 := HI6.out.vb.cell 1
         have n2 := HI6.out.vb.cell 2
         have n3 := HI6.out.vb.cell 3
         have n4 := HI6.out.vb.cell 4
         have n5 := HI6.out.vb.cell 5
         have n6 := HI6.out.vb.cell 6
         simp at b0 b1 b2 b3 b4 b5 b6 p0 n0 n1 n2 n3 n4 n5 n6
         have ml := HI6.out.f.s.s.m.lt
         have xl6 := HI6.out.f.x.lt
         have pl := HI6.out.f.s.s.p.lt
         have nl := HI6.out.vb.lt
         have hne : wo.heap.size ≠ w5.heap.size := by omega
         clear hw6 d0 d1 f0 f1 fl
         rcases hB2 (x.kind == 2) with g2 | g2
         · rcases hB2 (x.kind == 3) with g3 | g3
           · obtain ⟨wi, hwi⟩ : ∃ wi : Int, wi = 0 := ⟨_, rfl⟩
             have HVO := hide (show vioOf m p time k x (fa, fb) = [⟨x.kind, (k : Int) + 1, time, fa, fb, x.item, wi⟩] by unfold vioOf; rw [← HBE.out, hwi]; simp only [beq_eq_false_iff_ne] at g2 g3; simp [whereI, g2, g3])
             have HI9 := hide (HI6.out.f.grow ((Below.refl w6.heap.size w6).alloc (Nat.le_refl _) (.cells #[.int .i64 x.kind, .int .i64 ((k : Int) + 1), .int .i64 time, .int .i64 fa, .int .i64 fb, .int .i64 x.item, .int .i64 0] 54)))
             have HRV := hide (newVio w6 ⟨x.kind, (k : Int) + 1, time, fa, fb, x.item, 0⟩)
             rw [hwi] at HVO
             clear hwi
             go_wp2_with (at_builtin; refine append_vi rfl _ _ rfl w.heap.size _ (T ++ instF m p time k x q) rfl HI9.out.s.o (w6.heap.size + 1) (some ⟨w6.heap.size, 0, none⟩) _ ⟨x.kind, (k : Int) + 1, time, fa, fb, x.item, 0⟩ rfl HRV.out HLN.out HI9.out.s.s.b.size ?_; intro v9 w9 ho9 hg9 _
                          have HF9 := hide (HI9.out.appended hg9 ho9)
                          clear ho9 hg9)
             go_roundw
             case rel => exact ⟨q + 1, by have := HLQ.out; omega, by go_num, hide (by rw [HV.out, HVO.out, ← List.append_assoc]; exact HF9.out)⟩
             case measure => have := HLQ.out; simp [intOf]; omega
           · obtain ⟨wi, hwi⟩ : ∃ wi, wi = (elsewhereI x p).getD 0 := ⟨_, rfl⟩
             have HVO := hide (show vioOf m p time k x (fa, fb) = [⟨x.kind, (k : Int) + 1, time, fa, fb, x.item, wi⟩] by unfold vioOf; rw [← HBE.out, hwi]; simp only [beq_eq_false_iff_ne, beq_iff_eq] at g2 g3; simp [whereI, g3])
             have HE6 := HEL.out w6 HI6.out.f.s.s.b
             obtain ⟨bd, hbd⟩ : ∃ bd, bd = (elsewhereI x p).isSome := ⟨_, rfl⟩
             rw [← hwi, ← hbd] at HE6
             have HE6 := hide HE6
             clear hwi hbd
             go_wp2_with (first
              | (go_at_call 37; (with_reducible refine HE6.out.mono ?_); rintro e w7 ⟨rfl, hb7⟩
                 have HI7 := hide (HI6.out.grow hb7)
                 have hi8 := HI7.out.set_ 6 (.int .i64 wi)
                 have e0 := HI7.out.f.x.cell 0
                 have xl7 := HI7.out.f.x.lt
                 have v0 := HI7.out.vb.cell 0
                 have v1 := HI7.out.vb.cell 1
                 have v2 := HI7.out.vb.cell 2
                 have v3 := HI7.out.vb.cell 3
                 have v4 := HI7.out.vb.cell 4
                 have v5 := HI7.out.vb.cell 5
                 have v6 := HI7.out.vb.cell 6
                 have vf := HI7.out.vb.frozen 6
                 have vl := HI7.out.vb.lt
                 simp at e0 v0 v1 v2 v3 v4 v5 v6
                 have HI9 := hide (hi8.f.grow ((Below.refl (w7.setCell ⟨w5.heap.size, 6, none⟩ (.int .i64 wi)).heap.size (w7.setCell ⟨w5.heap.size, 6, none⟩ (.int .i64 wi))).alloc (Nat.le_refl _) (.cells #[.int .i64 x.kind, .int .i64 ((k : Int) + 1), .int .i64 time, .int .i64 fa, .int .i64 fb, .int .i64 x.item, .int .i64 wi] 54)))
                 have HRV := hide (newVio2 (w7.setCell ⟨w5.heap.size, 6, none⟩ (.int .i64 wi)) (n := w7.heap.size) (by simp) ⟨x.kind, (k : Int) + 1, time, fa, fb, x.item, wi⟩)
                 clear hb7 hi8)
              | (at_builtin; refine append_vi rfl _ _ rfl w.heap.size _ (T ++ instF m p time k x q) rfl HI9.out.s.o (w7.heap.size + 1) (some ⟨w7.heap.size, 0, none⟩) _ ⟨x.kind, (k : Int) + 1, time, fa, fb, x.item, wi⟩ rfl HRV.out HLN.out HI9.out.s.s.b.size ?_; intro v9 w9 ho9 hg9 _
                 have HF9 := hide (HI9.out.appended hg9 ho9)
                 clear ho9 hg9))
             go_roundw
             case rel => exact ⟨q + 1, by have := HLQ.out; omega, by go_num, hide (by rw [HV.out, HVO.out, ← List.append_assoc]; exact HF9.out)⟩
             case measure => have := HLQ.out; simp [intOf]; omega
         · obtain ⟨wi, hwi⟩ : ∃ wi, wi = crowdedI m x p := ⟨_, rfl⟩
           have HVO := hide (show vioOf m p time k x (fa, fb) = [⟨x.kind, (k : Int) + 1, time, fa, fb, x.item, wi⟩] by unfold vioOf; rw [← HBE.out, hwi]; simp only [beq_iff_eq] at g2; simp [whereI, g2])
           have g3 : (x.kind == 3) = false := by simp only [beq_iff_eq] at g2; simp [g2]
           have HC6 := HCW.out w6 HI6.out.f.s.s.b
           rw [← hwi] at HC6
           have HC6 := hide HC6
           clear hwi
           go_wp2_with (first
            | (go_at_call 36; (with_reducible refine HC6.out.mono ?_); rintro e w7 ⟨rfl, hb7⟩
               have HI7 := hide (HI6.out.grow hb7)
               have hi8 := HI7.out.set_ 6 (.int .i64 wi)
               have e0 := HI7.out.f.x.cell 0
               have xl7 := HI7.out.f.x.lt
               have v0 := HI7.out.vb.cell 0
               have v1 := HI7.out.vb.cell 1
               have v2 := HI7.out.vb.cell 2
               have v3 := HI7.out.vb.cell 3
               have v4 := HI7.out.vb.cell 4
               have v5 := HI7.out.vb.cell 5
               have v6 := HI7.out.vb.cell 6
               have vf := HI7.out.vb.frozen 6
               have vl := HI7.out.vb.lt
               simp at e0 v0 v1 v2 v3 v4 v5 v6
               have HI9 := hide (hi8.f.grow ((Below.refl (w7.setCell ⟨w5.heap.size, 6, none⟩ (.int .i64 wi)).heap.size (w7.setCell ⟨w5.heap.size, 6, none⟩ (.int .i64 wi))).alloc (Nat.le_refl _) (.cells #[.int .i64 x.kind, .int .i64 ((k : Int) + 1), .int .i64 time, .int .i64 fa, .int .i64 fb, .int .i64 x.item, .int .i64 wi] 54)))
               have HRV := hide (newVio2 (w7.setCell ⟨w5.heap.size, 6, none⟩ (.int .i64 wi)) (n := w7.heap.size) (by simp) ⟨x.kind, (k : Int) + 1, time, fa, fb, x.item, wi⟩)
               clear hb7 hi8)
            | (at_builtin; refine append_vi rfl _ _ rfl w.heap.size _ (T ++ instF m p time k x q) rfl HI9.out.s.o (w7.heap.size + 1) (some ⟨w7.heap.size, 0, none⟩) _ ⟨x.kind, (k : Int) + 1, time, fa, fb, x.item, wi⟩ rfl HRV.out HLN.out HI9.out.s.s.b.size ?_; intro v9 w9 ho9 hg9 _
               have HF9 := hide (HI9.out.appended hg9 ho9)
               clear ho9 hg9))
           go_roundw
           case rel => exact ⟨q + 1, by have := HLQ.out; omega, by go_num, hide (by rw [HV.out, HVO.out, ← List.append_assoc]; exact HF9.out)⟩
           case measure => have := HLQ.out; simp [intOf]; omega
       · have HVO := hide (show vioOf m p time k x (fa, fb) = [] by unfold vioOf; rw [← HBE.out]; rfl)
         go_wp2_with fail
         go_roundw
         case rel => exact ⟨q + 1, by have := HLQ.out; omega, by go_num, hide (by rw [HV.out, HVO.out, List.append_nil]; exact HG5.out.1)⟩
         case measure => have := HLQ.out; simp [intOf]; omega
     · obtain rfl : q = L.length := by omega
       have HSS := hide hF.out.s
       clear hF
       go_wp2_with fail
       go_roundw
       case rel => exact ⟨k + 1, by have := HKK.out.1; omega, by go_num, hide (by rw [HIS.out]; exact HSS.out)⟩
       case measure => have := HKK.out.1; simp [intOf]; omega
  · obtain rfl : k = m.uT.length := by omega
    go_wp2_with fail
    go_ret
    exact ⟨_, rfl, hS.out.o, hS.out.s.b⟩
end Go.Proofs.YtlnjaemdelnceaaGreatDoor
