/- A part of the claim: see its last text. -/
import Derived.Test.YtaepcjklimigmaaGreatDoorCK42
import Derived.Test.YtaepcjklimigmaaGreatDoorCK28
import Derived.Test.YtaepcjklimigmaaGreatDoorCK12
import Derived.Test.YtaepcjklimigmaaGreatDoorCK21
import Derived.Test.YtaepcjklimigmaaGreatDoorCK35
import Derived.Test.YtaepcjklimigmaaGreatDoorCK36

set_option maxRecDepth 100000
set_option maxHeartbeats 16000000
namespace Go.Proofs.YtaepcjklimigmaaGreatDoor
open Go Go.RowKit Go.Proofs
theorem OgV.besides {w0 : World} {A : Option Addr} {n c : Nat} {item : Int} {bl bd r bi bn bo bp : Nat} {ds : List Int} {run most : Int} {W W' : World} (s : OgV w0 A n c item bl bd r bi bn bo ds run most W) (hs : Besides bp W W') (hp : ∃ cs, Blk W bp 64 cs) (h0 : w0.heap.size ≤ bp) : OgV w0 A n c item bl bd r bi bn bo ds run most W' := by
 obtain ⟨cs, hp⟩ := hp
 exact ⟨s.b.trans (hs.toBelow h0 s.b.size), hs.blk s.lb (blk_ne s.lb hp (by decide)), hs.blk s.mb (blk_ne s.mb hp (by decide)), s.dm.keep (hs.block r s.dm.lt (s.heap_r hp)), hs.blk s.ib (blk_ne s.ib hp (by decide)), hs.blk s.nb (blk_ne s.nb hp (by decide)), hs.blk s.ob (blk_ne s.ob hp (by decide))⟩
theorem outageWalk (h : MH) (m : Mod) (l : List EvM) (A : Option Addr) (c : Nat) (item : Int) (w w5 : World) (bl bd r bi bn bo : Nat) (d : MD w w.heap.size h m) (hE : Rows encEv 22 w w.heap.size A l) (hi : m.iT.length ≤ 100) (hm : m.mT.length ≤ 100) (hon : ∀ x ∈ m.iT, x.on.length ≤ 100) (hl : l.length ≤ 60) (hold : ∀ x ∈ l, x.old.length ≤ 10)
    (hs : OgV w A l.length c item bl bd r bi bn bo [] 0 0 w5) (hr : w.heap.size ≤ r) (hn : w.heap.size ≤ bn) (ho : w.heap.size ≤ bo) (h1 : bi ≠ bn) (h2 : bn ≠ bo) (h3 : bi ≠ bo) :
    Calls Tryz.prog 37 #[.agg #[.slice h.s m.sT.length h.sc, .slice h.f m.fT.length h.fc, .slice h.r m.rT.length h.rc, .slice h.m m.mT.length h.mc, .slice h.l m.lT.length h.lc, .slice h.i m.iT.length h.ic, .int .i64 m.dT, .int .i64 m.oT, .int .i64 m.vT, .int .i64 m.aT, .slice h.u m.uT.length h.uc], .slice A l.length c, .func (.func 56) #[] #[.pointer (some ⟨bl, 0, none⟩), .pointer (some ⟨bd, 0, none⟩), .pointer (some ⟨bi, 0, none⟩), .pointer (some ⟨bn, 0, none⟩), .pointer (some ⟨bo, 0, none⟩)]] w5
     (TupR fun w' => OgV w A l.length c item bl bd r bi bn bo (dnTo l l.length) (runTo m l item l.length) (mostTo m l item l.length) w') := by
 have hh := walk_prog 56 #[.pointer (some ⟨bl, 0, none⟩), .pointer (some ⟨bd, 0, none⟩), .pointer (some ⟨bi, 0, none⟩), .pointer (some ⟨bn, 0, none⟩), .pointer (some ⟨bo, 0, none⟩)] (fun _ _ => by kernel_rfl)
  (fun _ k W => OgV w A l.length c item bl bd r bi bn bo (dnTo l k) (runTo m l item k) (mostTo m l item k) W) h m l A c w.heap.size w5 hs.b.size (d.below hs.b) (hE.below hs.b) hi hm hon hl hold
  (fun bp W hW h1 h2 => hs.grow hW)
  (fun bp i W W' h1 h2 h3 h4 => h4.besides h3 h2 (by have := hs.b.size; omega))
  (fun bp i hil W A' c' h4 h5 h6 h7 h8 => by
    have hrm := Room.placeAt (m := m) (l := l) (by omega) hon hold (i + 1)
    have hru := runTo_rng m l item i
    have hmo := mostTo_rng m l item i
    have := outage1_prog w l A c item bl bd r bi bn bo bp i (dnTo l i) (runTo m l item i) (mostTo m l item i) W A' c' (placeAt m l (i + 1)) (countsB m l[i]) h4 hE hil hl h8 (hrm.mono (by omega)) hr hn ho h1 h2 h3 (by omega) (by omega)
    rw [show dnTo l (i + 1) = dnStep l[i] (dnTo l i) from dnTo_succ hil]
    refine this.mono fun e w' hq => ?_
    have e1 : runTo m l item (i + 1) = runStep (machinesP (placeAt m l (i + 1)) item 0) (dnStep l[i] (dnTo l i)) (runTo m l item i) := by rw [runTo, dnTo_succ hil]
    have e2 : mostTo m l item (i + 1) = max (mostTo m l item i) (runTo m l item (i + 1)) := rfl
    rw [e2, e1]
    exact hq)
 refine hh.mono fun e w' ⟨he, bp, h1, h2⟩ => ⟨he, h2⟩
theorem og_below (w2 : World) : Below w2.heap.size w2 ((((w2.alloc (.map #[] 0)).alloc (.cells #[.map (some w2.heap.size)] 83)).alloc (.cells #[.int .i64 0] 3)).alloc (.cells #[.int .i64 0] 3)) := (((((Below.refl _ _).alloc (Nat.le_refl _) _).alloc (by simp) _).alloc (by simp; omega) _).alloc (by simp; omega) _)
theorem og_start {w w1 w2 : World} {A : Option Addr} {n c : Nat} {item : Int} (hb : Below w.heap.size w w1) (hl : Blk w1 (w.heap.size + 1) 30 #[.slice A n c]) (hi : Blk w1 (w.heap.size + 1 + 1) 3 #[.int .i64 item]) (hb2 : Below w1.heap.size w1 w2) :
    OgV w A n c item (w.heap.size + 1) (w2.heap.size + 1) w2.heap.size (w.heap.size + 1 + 1) (w2.heap.size + 1 + 1 + 1) (w2.heap.size + 1 + 1) [] 0 0 ((((w2.alloc (.map #[] 0)).alloc (.cells #[.map (some w2.heap.size)] 83)).alloc (.cells #[.int .i64 0] 3)).alloc (.cells #[.int .i64 0] 3)) := by
 have h12 := hb.trans (hb2.mono hb.size)
 have h5 := og_below w2
 obtain ⟨u1, e1⟩ : ∃ u1, u1 = w2.alloc (.map #[] 0) := ⟨_, rfl⟩
 obtain ⟨u2, e2⟩ : ∃ u2, u2 = u1.alloc (.cells #[.map (some w2.heap.size)] 83) := ⟨_, rfl⟩
 obtain ⟨u3, e3⟩ : ∃ u3, u3 = u2.alloc (.cells #[.int .i64 0] 3) := ⟨_, rfl⟩
 have s1 : u1.heap.size = w2.heap.size + 1 := by rw [e1]; simp
 have s2 : u2.heap.size = w2.heap.size + 1 + 1 := by rw [e2]; simp [s1]
 have s3 : u3.heap.size = w2.heap.size + 1 + 1 + 1 := by rw [e3]; simp [s2]
 rw [← e1, ← e2, ← e3] at h5 ⊢
 have hg : u1.heap[w2.heap.size]? = some (.map #[] 0) := by rw [e1]; exact heap_alloc_new w2 _
 refine ⟨h12.trans (h5.mono h12.size), (hl.below hb2 hl.lt).below h5 (hl.below hb2 hl.lt).lt, ?_, ?_, (hi.below hb2 hi.lt).below h5 (hi.below hb2 hi.lt).lt, ?_, ?_⟩
 · have : Blk u2 u1.heap.size 83 #[.map (some w2.heap.size)] := by rw [e2]; exact Blk.new _ _ _
   rw [s1] at this
   rw [e3]
   exact (this.alloc _).alloc _
 · refine ⟨#[], 0, ?_, rfl, List.nodup_nil⟩
   rw [e3, e2]
   have k1 := (Below.heap_alloc u1 (.cells #[.map (some w2.heap.size)] 83) w2.heap.size (by omega)).trans hg
   have k2 := (Below.heap_alloc (u1.alloc (.cells #[.map (some w2.heap.size)] 83)) (.cells #[.int .i64 0] 3) w2.heap.size (by simp; omega)).trans k1
   exact (Below.heap_alloc _ (.cells #[.int .i64 0] 3) w2.heap.size (by simp; omega)).trans k2
 · rw [← s3]; exact Blk.new _ _ _
 · have : Blk u3 u2.heap.size 3 #[.int .i64 0] := by rw [e3]; exact Blk.new _ _ _
   rw [s2] at this
   exact this.alloc _
theorem outage_prog (h : MH) (m : Mod) (l : List EvM) (A : Option Addr) (c : Nat) (item : Int) (w : World) (d : MD w w.heap.size h m) (k1 : m.rT.length ≤ h.rc) (k2 : m.mT.length ≤ h.mc) (k3 : m.lT.length ≤ h.lc) (ha : Asc w) (hv : validM m = true)
    (hE : Rows encEv 22 w w.heap.size A l) (hl : l.length ≤ 60) (hold : ∀ x ∈ l, x.old.length ≤ 10) :
    Calls Tryz.prog 26 #[.agg #[.slice h.s m.sT.length h.sc, .slice h.f m.fT.length h.fc, .slice h.r m.rT.length h.rc, .slice h.m m.mT.length h.mc, .slice h.l m.lT.length h.lc, .slice h.i m.iT.length h.ic, .int .i64 m.dT, .int .i64 m.oT, .int .i64 m.vT, .int .i64 m.aT, .slice h.u m.uT.length h.uc], .slice A l.length c, .int .i64 item] w (AnsR w (.int .i64 (outageM m l item))) := by
 obtain ⟨w0, e0⟩ : ∃ w0, w0 = ((w.alloc (.cells #[.slice h.s m.sT.length h.sc, .slice h.f m.fT.length h.fc, .slice h.r m.rT.length h.rc, .slice h.m m.mT.length h.mc, .slice h.l m.lT.length h.lc, .slice h.i m.iT.length h.ic, .int .i64 m.dT, .int .i64 m.oT, .int .i64 m.vT, .int .i64 m.aT, .slice h.u m.uT.length h.uc] 29)).alloc (.cells #[.slice A l.length c] 30)).alloc (.cells #[.int .i64 item] 3) := ⟨_, rfl⟩
 have hb0 : Below w.heap.size w w0 := by rw [e0]; exact (((Below.refl w.heap.size w).alloc (Nat.le_refl _) _).alloc (by simp) _).alloc (by simp; omega) _
 have HM0 := hide (show Blk w0 w.heap.size 29 #[.slice h.s m.sT.length h.sc, .slice h.f m.fT.length h.fc, .slice h.r m.rT.length h.rc, .slice h.m m.mT.length h.mc, .slice h.l m.lT.length h.lc, .slice h.i m.iT.length h.ic, .int .i64 m.dT, .int .i64 m.oT, .int .i64 m.vT, .int .i64 m.aT, .slice h.u m.uT.length h.uc] by rw [e0]; exact ((Blk.new w _ _).alloc _).alloc _)
 have HL0 := hide (show Blk w0 (w.heap.size + 1) 30 #[.slice A l.length c] by
  rw [e0]
  have := (Blk.new (w.alloc (.cells #[.slice h.s m.sT.length h.sc, .slice h.f m.fT.length h.fc, .slice h.r m.rT.length h.rc, .slice h.m m.mT.length h.mc, .slice h.l m.lT.length h.lc, .slice h.i m.iT.length h.ic, .int .i64 m.dT, .int .i64 m.oT, .int .i64 m.vT, .int .i64 m.aT, .slice h.u m.uT.length h.uc] 29)) 30 #[.slice A l.length c]).alloc (.cells #[.int .i64 item] 3)
  simpa using this)
 have HI0 := hide (show Blk w0 (w.heap.size + 1 + 1) 3 #[.int .i64 item] by
  rw [e0]
  have := Blk.new ((w.alloc (.cells #[.slice h.s m.sT.length h.sc, .slice h.f m.fT.length h.fc, .slice h.r m.rT.length h.rc, .slice h.m m.mT.length h.mc, .slice h.l m.lT.length h.lc, .slice h.i m.iT.length h.ic, .int .i64 m.dT, .int .i64 m.oT, .int .i64 m.vT, .int .i64 m.aT, .slice h.u m.uT.length h.uc] 29)).alloc (.cells #[.slice A l.length c] 30)) 3 #[.int .i64 item]
  simpa using this)
 have HB := hide hb0
 have HV := hide (fun W (hW : Below w.heap.size w W) => validM_prog h m W (d.grow hW) k1 k2 k3 (ha.below (Nat.le_refl _) hW) hv)
 have HKD := hide (fun W (hW : Below w.heap.size w W) => kind_prog h m item W (d.grow hW))
 obtain ⟨s1, s2, s3, s4, s5, s6⟩ := valid_sizes hv
 have HW := hide (fun w5 bd r bn bo hs hr hn ho h1 h2 h3 => outageWalk h m l A c item w w5 (w.heap.size + 1) bd r (w.heap.size + 1 + 1) bn bo d hE (by omega) (by omega) (fun y hy => by have := valid_on hv hy; omega) hl hold hs hr hn ho h1 h2 h3)
 have HE := hide e0
 have hB : ∀ b : Bool, b = false ∨ b = true := fun b => by cases b <;> simp
 have HOM := hide (show outageM m l item = if kindI m item = 0 then mostTo m l item l.length else 0 from rfl)
 obtain ⟨kd, hkd⟩ : ∃ kd, kd = kindI m item := ⟨_, rfl⟩
 rw [← hkd] at HKD HOM
 clear hb0 d k1 k2 k3 ha hv hE hkd e0 s1 s2 s3 s4 s5 s6
 rcases hB (kd != 0) with g | g
 · have HO2 := hide (show outageM m l item = mostTo m l item l.length by rw [HOM.out, if_pos (by simpa using g)])
   have hmm := @run_makeMap Tryz.prog
   go_enter Tryz.func26, Tryz.ntmps26
   go_wp2_with (first
    | (go_at_call 35; rw [← HE.out]; refine (HV.out _ HB.out).mono ?_; rintro e w1 ⟨rfl, hb1⟩; have HB1 := hide (HB.out.trans (hb1.mono HB.out.size)); have HM1 := hide (HM0.out.below hb1 HM0.out.lt); have HL1 := hide (HL0.out.below hb1 HL0.out.lt); have HI1 := hide (HI0.out.below hb1 HI0.out.lt); obtain ⟨a0, a1, a2, a3, a4, a5, a6, a7, a8, a9, a10⟩ := MB.cells HM1.out; have al := HM1.out.lt; have i0 := HI1.out.cell 0; have il := HI1.out.lt; simp only [List.getElem?_toArray, List.getElem?_cons_zero] at i0; clear hb1)
    | (go_at_call 55; refine (HKD.out _ HB1.out).mono ?_; rintro e w2 ⟨rfl, hb2⟩
       have hb12 := HB1.out.trans (hb2.mono HB1.out.size)
       have HOG := hide (og_start HB1.out HL1.out HI1.out hb2)
       have hb5 := og_below w2
       have hm5 := (HM1.out.below hb2 HM1.out.lt).below hb5 (HM1.out.below hb2 HM1.out.lt).lt
       obtain ⟨b0, b1, b2, b3, b4, b5, b6, b7, b8, b9, b10⟩ := MB.cells hm5
       have bl := hm5.lt
       have l0 := HOG.out.lb.cell 0
       have ll := HOG.out.lb.lt
       simp only [List.getElem?_toArray, List.getElem?_cons_zero] at l0
       have hsz : w.heap.size ≤ w2.heap.size := hb12.size
       have HWC := hide (HW.out _ _ _ _ _ HOG.out hsz (by omega) (by omega) (by have := HI1.out.lt; have := hb2.size; omega) (by omega) (by have := HI1.out.lt; have := hb2.size; omega))
       clear hb2 hb12 hb5 hm5 a0 a1 a2 a3 a4 a5 a6 a7 a8 a9 a10 al i0 il)
    | (go_at_call 37; refine HWC.out.mono ?_; rintro e w9 ⟨rfl, hs9⟩
       have o0 := hs9.ob.cell 0
       have ol := hs9.ob.lt
       simp only [List.getElem?_toArray, List.getElem?_cons_zero] at o0
       have HB9 := hide hs9.b
       clear hs9))
   go_ret
   exact ⟨ret_congr (by rw [HO2.out]; rfl), HB9.out⟩
 · have HO2 := hide (show outageM m l item = 0 by rw [HOM.out, if_neg (by simpa using g)])
   go_enter Tryz.func26, Tryz.ntmps26
   go_wp2_with (first
    | (go_at_call 35; rw [← HE.out]; refine (HV.out _ HB.out).mono ?_; rintro e w1 ⟨rfl, hb1⟩; have HB1 := hide (HB.out.trans (hb1.mono HB.out.size)); have HM1 := hide (HM0.out.below hb1 HM0.out.lt); have HI1 := hide (HI0.out.below hb1 HI0.out.lt); obtain ⟨a0, a1, a2, a3, a4, a5, a6, a7, a8, a9, a10⟩ := MB.cells HM1.out; have al := HM1.out.lt; have i0 := HI1.out.cell 0; have il := HI1.out.lt; simp only [List.getElem?_toArray, List.getElem?_cons_zero] at i0; clear hb1)
    | (go_at_call 55; refine (HKD.out _ HB1.out).mono ?_; rintro e w2 ⟨rfl, hb2⟩; have HB2 := hide (HB1.out.trans (hb2.mono HB1.out.size))))
   go_ret
   exact ⟨ret_congr (by rw [HO2.out]; rfl), HB2.out⟩
theorem outcome_ref (A : Option Addr) (c : Nat) (l : List EvM) (w : World) (hl : l.length ≤ 1000) (h : Rows encEv 22 w w.heap.size A l) :
    Calls Tryz.prog 25 #[.slice A l.length c] w fun e w' => e = .returned (.tuple #[.int .i64 (outcomeM l).1, .int .i64 (outcomeM l).2]) ∧ w = w' := by
 go_enter Tryz.func25, Tryz.ntmps25
 go_wp2_with fail
 go_loop [4] (fun i => ∃ k : Nat, k ≤ l.length ∧ i = .int .i64 k ∧ Hid (∀ j (hj : j < l.length), j < k → (fun u : EvM => decide (u.kind = 4)) l[j] = false)) (fun i => l.length - (intOf i).toNat)
 case atStart => exact ⟨0, Nat.zero_le _, rfl, fun j hj h0 => absurd h0 (by omega)⟩
 case round =>
  obtain ⟨k, hk, rfl, hs⟩ := hrel
  by_cases hlt : k < l.length
  · obtain ⟨x, hx⟩ : ∃ x, l[k] = x := ⟨_, rfl⟩
    obtain ⟨b, off, j, hA, hb, _, _, _, hc⟩ := h.ev hlt hx
    have x0 : w.cell? ⟨b, off + k * 22, none⟩ = some (.int .i64 x.kind) := hc 0 _ rfl
    have x21 := hc 21 _ rfl
    subst hA
    have HXX := hide hx
    clear hc hx
    by_cases e1 : x.kind = 4
    · have g1 : (x.kind == 4) = true := by simpa using e1
      have hf : l.findIdx? (fun u : EvM => decide (u.kind = 4)) = some k := by
       rw [List.findIdx?_eq_some_iff_getElem]
       exact ⟨hlt, by rw [HXX.out]; simpa using e1, fun j hj => by simpa using hs.out j (by omega) hj⟩
      have HF := hide (show outcomeM l = (x.outcome, (k : Int)) by unfold outcomeM; rw [hf]; simp [hlt, HXX.out])
      clear e1 hf
      go_wp2_with fail
      go_ret2
      rw [HF.out]
      exact ⟨rfl, rfl⟩
    · have g1 : (x.kind == 4) = false := by simpa using e1
      have HK := hide e1
      clear e1 x21
      go_wp2_with fail
      go_round
      case rel => exact ⟨k + 1, by omega, by go_num, fun q hq h1 => by
       rcases Nat.lt_or_ge q k with h2 | h2
       · exact hs q hq h2
       · obtain rfl : q = k := by omega
         rw [HXX.out]; simpa using HK.out⟩
      case measure => simp [intOf]; omega
  · have hf : l.findIdx? (fun u : EvM => decide (u.kind = 4)) = none := by
      rw [List.findIdx?_eq_none_iff]
      intro y hy
      obtain ⟨j, hj, rfl⟩ := List.getElem_of_mem hy
      exact hs.out j hj (by omega)
    have HF := hide (show outcomeM l = (0, -1) by unfold outcomeM; rw [hf])
    clear hf
    go_wp2_with fail
    go_ret2
    rw [HF.out]
    exact ⟨rfl, rfl⟩
theorem ups_congr {on ds ds' : List Int} (h : ∀ x, x ∈ ds ↔ x ∈ ds') : upsOf on ds = upsOf on ds' := by
 unfold upsOf
 congr 1
 apply List.filter_congr
 intro x _
 simp [h x]
theorem OwnI.ne {B g : Nat} {w : World} {v : Value} {l : List Int} {T : TypeId} {cs : Array Value} (h : OwnI B w v l) (hb : Blk w g T cs) (hne : T ≠ 3) : v.ownBlock ≠ some g := by
 rintro e
 rcases h.2 with ⟨rfl, _⟩ | ⟨g2, cap, cur, rfl, _, hh, _⟩
 · cases e
 · obtain rfl : g2 = g := Option.some.inj e
   rw [Blk] at hb
   have := hb.symm.trans hh
   simp at this
   exact hne this.2
structure OtS (w : World) (h : MH) (m : Mod) (bp : Nat) (q : PlaceM) (W : World) : Prop where
 b : Below w.heap.size w W
 mo : Blk W w.heap.size 29 #[.slice h.s m.sT.length h.sc, .slice h.f m.fT.length h.fc, .slice h.r m.rT.length h.rc, .slice h.m m.mT.length h.mc, .slice h.l m.lT.length h.lc, .slice h.i m.iT.length h.ic, .int .i64 m.dT, .int .i64 m.oT, .int .i64 m.vT, .int .i64 m.aT, .slice h.u m.uT.length h.uc]
 pl : ∃ A c, Blk W bp 64 #[.slice A q.length c] ∧ PT W (.slice A q.length c) q
theorem OtS.grow {w : World} {h : MH} {m : Mod} {bp : Nat} {q : PlaceM} {W W' : World} (s : OtS w h m bp q W) (hb : Below W.heap.size W W') : OtS w h m bp q W' := by
 obtain ⟨A, c, h1, h2⟩ := s.pl
 exact ⟨s.b.trans (hb.mono s.b.size), s.mo.below hb s.mo.lt, ⟨A, c, h1.below hb h1.lt, h2.below hb⟩⟩
theorem OtS.grown {w : World} {h : MH} {m : Mod} {bp : Nat} {q : PlaceM} {v : Value} {l : List Int} {W W' : World} (s : OtS w h m bp q W) (ho : OwnI w.heap.size W v l) (hg : W.grownBy W' v.ownBlock) : OtS w h m bp q W' := by
 obtain ⟨A, c, h1, h2⟩ := s.pl
 exact ⟨s.b.grown hg s.b.size (fun g e => (ho.lt g e).1), s.mo.grown hg (fun e => ho.ne s.mo (by decide) e.symm), ⟨A, c, h1.grown hg (fun e => ho.ne h1 (by decide) e.symm), h2.keep (KT.grown ho (by decide) hg) (KT.grown ho (by decide) hg)⟩⟩
theorem OtS.turned {w : World} {h : MH} {m : Mod} {bp : Nat} {q q' : PlaceM} {W : World} (s : OtS w h m bp q W) {A : Option Addr} {c : Nat} (hp : PT W (.slice A q'.length c) q') (hbp : w.heap.size ≤ bp) : OtS w h m bp q' (W.setCell ⟨bp, 0, none⟩ (.slice A q'.length c)) := by
 obtain ⟨A0, c0, h1, h2⟩ := s.pl
 exact ⟨s.b.setCell (by simpa using hbp) _, s.mo.far (blk_ne s.mo h1 (by decide)) _, ⟨A, c, by simpa using h1.set_ 0 (.slice A q'.length c), hp.keep (KT.set_ h1 (by decide) 0 _) (KT.set_ h1 (by decide) 0 _)⟩⟩
theorem OwnI.turned {B bp : Nat} {v u : Value} {l : List Int} {W : World} {cs : Array Value} (h : OwnI B W v l) (hp : Blk W bp 64 cs) : OwnI B (W.setCell ⟨bp, 0, none⟩ u) v l := h.keep (KT.set_ hp (by decide) 0 _)
def OtI (w : World) (h : MH) (m : Mod) (l : List EvM) (item : Int) (bp : Nat) (v mv rv iv : Value) (wr : World) : Prop := ∃ k : Nat, k ≤ l.length ∧ iv = .int .i64 k ∧ mv = .int .i64 (mostTo m l item k) ∧ rv = .int .i64 (runTo m l item k) ∧ Hid (OtS w h m bp (placeAt m l k) wr ∧ ∃ dl, OwnI w.heap.size wr v dl ∧ dl.length ≤ k ∧ ∀ x, x ∈ dl ↔ x ∈ dnTo l k)
end Go.Proofs.YtaepcjklimigmaaGreatDoor
