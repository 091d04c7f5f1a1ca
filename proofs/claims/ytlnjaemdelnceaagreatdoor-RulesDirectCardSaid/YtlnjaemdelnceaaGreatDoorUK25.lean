/- A part of the claim: see its last text. -/
import Derived.Test.YtlnjaemdelnceaaGreatDoorUK24
import Derived.Test.YtlnjaemdelnceaaGreatDoorUK15
import Derived.Laws.MakeOwn

set_option maxRecDepth 100000
set_option maxHeartbeats 16000000
namespace Go.Proofs.YtlnjaemdelnceaaGreatDoor
open Go Go.RowKit Go.Proofs
theorem OwnI.row {B : Nat} {w : World} {v : Value} {l : List Int} (h : OwnI B w v l) : (v = .slice none 0 0 ∧ l = []) ∨ ∃ L c cs, v = .slice (some ⟨L, 0, none⟩) l.length c ∧ B ≤ L ∧ RowI w L cs l ∧ cs.size = c ∧ c ≤ maxLen := by
 rcases h.2 with ⟨rfl, h0⟩ | ⟨g, cap, cur, rfl, hB, hh, hc, hm, hs, ht⟩
 · exact .inl ⟨rfl, List.eq_nil_of_length_eq_zero h0⟩
 · refine .inr ⟨g, cap, cur, rfl, hB, ⟨hh, by omega, fun j hj => ?_⟩, by omega, hm⟩
   have h1 : (l.map (Value.int .i64))[j]? = some (.int .i64 l[j]) := by simp [hj]
   rw [← ht, List.getElem?_take] at h1
   split at h1
   · simpa using h1
   · cases h1
theorem RowI.own {B : Nat} {w : World} {L c : Nat} {cs : Array Value} {l : List Int} (h : RowI w L cs l) (hB : B ≤ L) (hc : cs.size = c) (hm : c ≤ maxLen) : OwnI B w (.slice (some ⟨L, 0, none⟩) l.length c) l := by
 refine ⟨by simp, .inr ⟨L, c, cs, rfl, hB, h.1, by have := h.2.1; omega, hm, by omega, ?_⟩⟩
 rw [Nat.mul_one]
 apply List.ext_getElem?
 intro j
 rw [List.getElem?_take]
 split
 · rename_i hj
   have := h.2.2 j hj
   simp only [Array.getElem?_toList]
   rw [this]; simp [hj]
 · rename_i hj
   rw [List.getElem?_eq_none (by simp; omega)]
theorem deleteFunc_nil (g : Nat) (lb : Array Value) (eg : ∀ args w, (callFunc g args).run Tryz.prog w = .ok (.enter g args) w) (w : World) :
    Calls Tryz.prog 77 #[.slice none 0 0, .func (.func g) #[] lb] w fun e w' => e = .returned (.slice none 0 0) ∧ Below w.heap.size w w' := by
 have HI := hide (indexFunc_ints g lb eg (fun _ => true) none 0 [] w (by simp) ⟨rfl, fun h => absurd h (by simp)⟩ fun k hk => absurd hk (by simp))
 have HF := hide (show firstI (fun _ : Int => true) [] = -1 from rfl)
 rw [HF.out] at HI
 clear HF
 go_enter Tryz.func77, Tryz.ntmps77
 go_wp2_with (go_at_call 70; refine HI.out.mono ?_; rintro e w1 ⟨rfl, hb1⟩)
 go_ret
 exact ⟨rfl, hb1⟩
theorem deleteFunc_own {B : Nat} (g : Nat) (lb : Array Value) (eg : ∀ args w, (callFunc g args).run Tryz.prog w = .ok (.enter g args) w) (p : Int → Bool) (v : Value) (l : List Int) (w : World) (h : OwnI B w v l) (hl : l.length ≤ 1000000000)
    (hp : ∀ (x : Int) (W : World) (L : Nat), v.ownBlock = some L → But L w.heap.size w W → Calls Tryz.prog g (#[.int .i64 x] ++ lb) W fun e w' => e = .returned (.bool (p x)) ∧ Below W.heap.size W w') :
    Calls Tryz.prog 77 #[v, .func (.func g) #[] lb] w fun e w' => ∃ v', e = .returned v' ∧ OwnI B w' v' (l.filter fun x => !p x) ∧ Below (min B w.heap.size) w w' := by
 rcases h.row with ⟨rfl, rfl⟩ | ⟨L, c, cs, rfl, hB, hR, hc, hm⟩
 · refine (deleteFunc_nil g lb eg w).mono ?_
   rintro e w1 ⟨rfl, hb⟩
   exact ⟨_, rfl, OwnI.nil_ _ _, hb.mono (by omega)⟩
 · refine (deleteFunc_ints g lb eg p L c l cs w hl hR hc fun x W hW => hp x W L rfl hW).mono ?_
   · rintro e w1 ⟨rfl, ⟨cs', hR', hc'⟩, hb⟩
     exact ⟨_, rfl, hR'.own hB hc' hm, ⟨hb.os, hb.tape, hb.output, hb.size, fun k hk => hb.block k (by omega) (by omega)⟩⟩
theorem survivors1_prog (h : MH) (m : Mod) (f : Int × Int) (x : Int) (bm bf B : Nat) (W : World) (hM : Blk W bm 29 #[.slice h.s m.sT.length h.sc, .slice h.f m.fT.length h.fc, .slice h.r m.rT.length h.rc, .slice h.m m.mT.length h.mc, .slice h.l m.lT.length h.lc, .slice h.i m.iT.length h.ic, .int .i64 m.dT, .int .i64 m.oT, .int .i64 m.vT, .int .i64 m.aT, .slice h.u m.uT.length h.uc]) (hF : Blk W bf 37 #[.int .i64 f.1, .int .i64 f.2]) (d : MD W B h m) (hB : B ≤ W.heap.size) :
    Calls Tryz.prog 108 #[.int .i64 x, .pointer (some ⟨bm, 0, none⟩), .pointer (some ⟨bf, 0, none⟩)] W fun e w' => e = .returned (.bool (hitsB m f x)) ∧ Below W.heap.size W w' := by
 obtain ⟨a0, a1, a2, a3, a4, a5, a6, a7, a8, a9, a10⟩ := MB.cells hM
 have f0 := hF.cell 0
 have f1 := hF.cell 1
 simp at f0 f1
 have l1 := hM.lt
 have l2 := hF.lt
 have HC := hide (hits_prog h m f x W (d.more hB))
 clear d hM hF
 go_enter Tryz.func108, Tryz.ntmps108
 go_wp2_with (go_at_call 55; refine HC.out.mono ?_; rintro e w1 ⟨rfl, hb1⟩)
 go_ret
 exact ⟨rfl, hb1⟩
theorem surv_del (h : MH) (m : Mod) (f : Int × Int) (l : List Int) (v1 : Value) (bm bf : Nat) (w wb w1 : World) (hb : Below w.heap.size w wb) (hM : Blk wb bm 29 #[.slice h.s m.sT.length h.sc, .slice h.f m.fT.length h.fc, .slice h.r m.rT.length h.rc, .slice h.m m.mT.length h.mc, .slice h.l m.lT.length h.lc, .slice h.i m.iT.length h.ic, .int .i64 m.dT, .int .i64 m.oT, .int .i64 m.vT, .int .i64 m.aT, .slice h.u m.uT.length h.uc]) (hF : Blk wb bf 37 #[.int .i64 f.1, .int .i64 f.2]) (d : MD w w.heap.size h m)
    (hb1 : Below wb.heap.size wb w1) (ho1 : OwnI wb.heap.size w1 v1 l) (hl : l.length ≤ 1000) :
    Calls Tryz.prog 77 #[v1, .func (.func 108) #[] #[.pointer (some ⟨bm, 0, none⟩), .pointer (some ⟨bf, 0, none⟩)]] w1 fun e w' => ∃ v', e = .returned v' ∧ OwnI wb.heap.size w' v' (l.filter fun x => !hitsB m f x) ∧ Below wb.heap.size w1 w' := by
 refine (deleteFunc_own 108 #[.pointer (some ⟨bm, 0, none⟩), .pointer (some ⟨bf, 0, none⟩)] (fun _ _ => by kernel_rfl) (fun x => hitsB m f x) v1 l w1 ho1 (by omega) (fun x W L hL hW => ?_)).mono ?_
 · have hLb := (ho1.lt L hL).1
   have hbW : Below wb.heap.size w1 W := ⟨hW.os, hW.tape, hW.output, hW.size, fun k hk => hW.block k (by have := hb1.size; omega) (by omega)⟩
   have hbx : Below wb.heap.size wb W := hb1.trans hbW
   have hM2 := hM.below hbx hM.lt
   have hF2 := hF.below hbx hF.lt
   exact survivors1_prog h m f x bm bf w.heap.size W hM2 hF2 ((d.below hb).below (hbx.mono hb.size)) (by have := hb.size; have := hbx.size; omega)
 · rintro e w2 ⟨v', rfl, ho, hb2⟩
   exact ⟨v', rfl, ho, hb2.mono (by have := hb1.size; omega)⟩
theorem survivors_prog (h : MH) (m : Mod) (A : Option Addr) (c : Nat) (p : PlaceM) (f : Int × Int) (item : Int) (w : World) (d : MD w w.heap.size h m) (hp : PR w w.heap.size A p) (hl : p.length ≤ 1000) (hul : (unitsP p item).length ≤ 1000) :
    Calls Tryz.prog 64 #[.agg #[.slice h.s m.sT.length h.sc, .slice h.f m.fT.length h.fc, .slice h.r m.rT.length h.rc, .slice h.m m.mT.length h.mc, .slice h.l m.lT.length h.lc, .slice h.i m.iT.length h.ic, .int .i64 m.dT, .int .i64 m.oT, .int .i64 m.vT, .int .i64 m.aT, .slice h.u m.uT.length h.uc], .agg #[.slice A p.length c], .agg #[.int .i64 f.1, .int .i64 f.2], .int .i64 item] w (IntsR w (survP m p f item)) := by
 have hb0 : Below w.heap.size w (((w.alloc (.cells #[.slice h.s m.sT.length h.sc, .slice h.f m.fT.length h.fc, .slice h.r m.rT.length h.rc, .slice h.m m.mT.length h.mc, .slice h.l m.lT.length h.lc, .slice h.i m.iT.length h.ic, .int .i64 m.dT, .int .i64 m.oT, .int .i64 m.vT, .int .i64 m.aT, .slice h.u m.uT.length h.uc] 29)).alloc (.cells #[.slice A p.length c] 35)).alloc (.cells #[.int .i64 f.1, .int .i64 f.2] 37)) := (((Below.refl w.heap.size w).alloc (Nat.le_refl _) _).alloc (by simp) _).alloc (by simp; omega) _
 have HB := hide hb0
 have HM := hide (pmachines_prog A c p item 0 _ (hp.grow hb0) hl hul)
 have HSD := hide (fun v1 w1 => surv_del h m f (machinesP p item 0) v1 w.heap.size (w.heap.size + 1 + 1) w _ w1 hb0 (((Blk.new w _ _).alloc _).alloc _) (by
  have := Blk.new ((w.alloc (.cells #[.slice h.s m.sT.length h.sc, .slice h.f m.fT.length h.fc, .slice h.r m.rT.length h.rc, .slice h.m m.mT.length h.mc, .slice h.l m.lT.length h.lc, .slice h.i m.iT.length h.ic, .int .i64 m.dT, .int .i64 m.oT, .int .i64 m.vT, .int .i64 m.aT, .slice h.u m.uT.length h.uc] 29)).alloc (.cells #[.slice A p.length c] 35)) 37 #[.int .i64 f.1, .int .i64 f.2]
  simpa using this) d)
 have HML := hide (show (machinesP p item 0).length ≤ 1000 by have := machinesP_len p item 0; omega)
 clear hb0 d hp
 go_enter Tryz.func64, Tryz.ntmps64
 go_wp2_with (first
  | (go_at_call 42; refine HM.out.mono ?_; rintro e w1 ⟨v1, rfl, ho1, hb1⟩; have HDF := hide (HSD.out v1 w1 hb1 ho1 HML.out); have HB1 := hide hb1; obtain ⟨A1, c1, rfl, _⟩ := ho1.form; clear ho1 hb1)
  | (go_at_call 77; refine HDF.out.mono ?_; rintro e w2 ⟨v2, rfl, ho2, hb2⟩; have HO2 := hide ho2; have HB2 := hide hb2; clear ho2 hb2))
 go_ret
 refine ⟨v2, rfl, own_lowerI HO2.out HB.out.size, (HB.out.trans (HB1.out.mono HB.out.size)).trans (HB2.out.mono HB.out.size)⟩
theorem mk_ints (n : Nat) (hn : n ≤ 1000) (w : World) : (Instr.makeSlice 30 (.int .i64 (n : Int)) (.int .i64 (n : Int))).run Tryz.prog w = .ok (.slice (some ⟨w.heap.size, 0, none⟩) n n) (w.alloc (.cells ((List.replicate n (0 : Int)).map (Value.int .i64)).toArray 3)) := by
 obtain ⟨i0, hi, hz0, hz1, hz2⟩ := info_parts infoI
 rw [run_makeSlice (w := w) 30 3 i0 (.int .i64 0) Tryz.underlying30 hi hz0 .i64 .i64 n n (by omega) (by omega) (by rw [hz1]; simp; omega) (by rw [hz2]; simp; omega) (by omega)]
 have : madeCells (Value.int .i64 0).cells ((n : Int).toNat * i0.size) = ((List.replicate n (0 : Int)).map (Value.int .i64)).toArray := by
  rw [hz1]
  simp only [madeCells, Value.cells, Int.toNat_natCast, Nat.mul_one]
  apply Array.ext <;> simp [Nat.mod_one]
 rw [this]
 simp
theorem spread_prog (h : MH) (m : Mod) (A : Option Addr) (c : Nat) (p : PlaceM) (item by_ : Int) (w : World) (d : MD w w.heap.size h m) (hp : PR w w.heap.size A p) (hl : p.length ≤ 1000) (hul : (unitsP p item).length ≤ 1000) (hd : domsI m by_ ≤ 100) :
    Calls Tryz.prog 71 #[.agg #[.slice h.s m.sT.length h.sc, .slice h.f m.fT.length h.fc, .slice h.r m.rT.length h.rc, .slice h.m m.mT.length h.mc, .slice h.l m.lT.length h.lc, .slice h.i m.iT.length h.ic, .int .i64 m.dT, .int .i64 m.oT, .int .i64 m.vT, .int .i64 m.aT, .slice h.u m.uT.length h.uc], .agg #[.slice A p.length c], .int .i64 item, .int .i64 by_] w (IntsR w (spreadP m p item by_)) := by
 have hb0 : Below w.heap.size w ((w.alloc (.cells #[.slice h.s m.sT.length h.sc, .slice h.f m.fT.length h.fc, .slice h.r m.rT.length h.rc, .slice h.m m.mT.length h.mc, .slice h.l m.lT.length h.lc, .slice h.i m.iT.length h.ic, .int .i64 m.dT, .int .i64 m.oT, .int .i64 m.vT, .int .i64 m.aT, .slice h.u m.uT.length h.uc] 29)).alloc (.cells #[.slice A p.length c] 35)) := ((Below.refl w.heap.size w).alloc (Nat.le_refl _) _).alloc (by simp) _
 have HB := hide hb0
 have HDM := hide (domains_prog h m by_ ((w.alloc (.cells #[.slice h.s m.sT.length h.sc, .slice h.f m.fT.length h.fc, .slice h.r m.rT.length h.rc, .slice h.m m.mT.length h.mc, .slice h.l m.lT.length h.lc, .slice h.i m.iT.length h.ic, .int .i64 m.dT, .int .i64 m.oT, .int .i64 m.vT, .int .i64 m.aT, .slice h.u m.uT.length h.uc] 29)).alloc (.cells #[.slice A p.length c] 35)) d.ml d.rl d.fl d.sl)
 have HD := hide (fun W (hb : Below w.heap.size w W) (x : Int) => domain_prog h m by_ x W (d.grow hb))
 have HM := hide (fun W (hb : Below w.heap.size w W) => pmachines_prog A c p item 0 W (hp.grow hb) hl hul)
 have HML := hide (show (machinesP p item 0).length ≤ 1000 by have := machinesP_len p item 0; omega)
 have HDI := hide (show 0 ≤ domsI m by_ ∧ domsI m by_ ≤ 100 from ⟨domsI_nonneg _ _, hd⟩)
 clear hb0 d hp hd
 go_enter Tryz.func71, Tryz.ntmps71
 go_wp2_with (go_at_call 109; refine HDM.out.mono ?_; rintro e w1 ⟨rfl, hb1⟩; have HB1 := hide hb1; clear hb1)
 obtain ⟨n, hn⟩ : ∃ n : Nat, domsI m by_ = (n : Int) := ⟨(domsI m by_).toNat, by have := HDI.out; omega⟩
 have hn100 : n ≤ 100 := by have := HDI.out; omega
 have HN := hide hn
 rw [hn]
 clear hn
 have hmk := mk_ints n (by omega) w1
 rw [hmk]
 clear hmk
 obtain ⟨cs0, hcs0⟩ : ∃ cs0, cs0 = ((List.replicate n (0 : Int)).map (Value.int .i64)).toArray := ⟨_, rfl⟩
 rw [← hcs0]
 simp only [Result.andThen_ok, Oper.upon_value]
 have HB2 := hide ((HB.out.trans (HB1.out.mono HB.out.size)).alloc (HB.out.trans (HB1.out.mono HB.out.size)).size (.cells cs0 3))
 have HX := hide (HM.out _ HB2.out)
 have HG := hide (Blk.new w1 3 cs0)
 have HBM := hide ((((Blk.new w 29 #[.slice h.s m.sT.length h.sc, .slice h.f m.fT.length h.fc, .slice h.r m.rT.length h.rc, .slice h.m m.mT.length h.mc, .slice h.l m.lT.length h.lc, .slice h.i m.iT.length h.ic, .int .i64 m.dT, .int .i64 m.oT, .int .i64 m.vT, .int .i64 m.aT, .slice h.u m.uT.length h.uc]).alloc (.cells #[.slice A p.length c] 35)).below HB1.out (by simp; omega)).alloc (.cells cs0 3))
 have HCS := hide hcs0
 clear hcs0
 have HPB := hide (show (w1.alloc (.cells cs0 3)).cell? ⟨w.heap.size + 1, 0, none⟩ = some (.slice A p.length c) ∧ w.heap.size + 1 < (w1.alloc (.cells cs0 3)).heap.size from by
  have h1 := ((Blk.new (w.alloc (.cells #[.slice h.s m.sT.length h.sc, .slice h.f m.fT.length h.fc, .slice h.r m.rT.length h.rc, .slice h.m m.mT.length h.mc, .slice h.l m.lT.length h.lc, .slice h.i m.iT.length h.ic, .int .i64 m.dT, .int .i64 m.oT, .int .i64 m.vT, .int .i64 m.aT, .slice h.u m.uT.length h.uc] 29)) 35 #[.slice A p.length c]).below HB1.out (by simp)).alloc (.cells cs0 3)
  simp only [World.size_alloc] at h1
  exact ⟨by rw [h1.cell]; rfl, h1.lt⟩)
 obtain ⟨pb0, pb1⟩ := HPB.out
 go_wp2_with (go_at_call 42; refine HX.out.mono ?_; rintro e w3 ⟨v3, rfl, ho3, hb3⟩; have HO3 := hide ho3; have HB3 := hide hb3; obtain ⟨A3, c3, rfl, _⟩ := ho3.form; clear ho3 hb3)
 obtain ⟨L, hL⟩ : ∃ L, L = machinesP p item 0 := ⟨_, rfl⟩
 have HL := hide hL
 rw [← hL] at HO3 ⊢
 have hLl : L.length ≤ 1000 := by rw [hL]; exact HML.out
 have HR3 := hide HO3.out.row
 have HNI := hide (show domsI m by_ = (n : Int) from HN.out)
 have HB03 := hide (HB2.out.trans (HB3.out.mono HB2.out.size))
 have HG3 := hide (HG.out.below HB3.out (by simp))
 have hgw : w.heap.size ≤ w1.heap.size := (HB.out.trans (HB1.out.mono HB.out.size)).size
 have HBM3 := hide (HBM.out.below HB3.out HBM.out.lt)
 have hgne : w.heap.size ≠ w1.heap.size := by have := HB1.out.size; simp at this; omega
 have HGN := hide hgne
 clear hL pb0 pb1 hgne
 go_loopw [21] (fun i wr => ∃ k : Nat, k ≤ L.length ∧ i = .int .i64 k ∧ Hid (Besides w1.heap.size w3 wr ∧ Blk wr w1.heap.size 3 ((spreadL m by_ (L.take k)).map (Value.int .i64)).toArray)) (fun i _ => L.length - (intOf i).toNat)
 case atStart =>
  refine ⟨0, Nat.zero_le _, rfl, ⟨rfl, rfl, rfl, Nat.le_refl _, fun _ _ _ => rfl⟩, ?_⟩
  have : spreadL m by_ (L.take 0) = List.replicate n 0 := by rw [List.take_zero, spreadL_nil, HNI.out]; rfl
  rw [this, ← HCS.out]
  exact HG3.out
 case round =>
  obtain ⟨k, hk, rfl, hS⟩ := hrel
  by_cases hlt : k < L.length
  · rcases HR3.out with ⟨_, h0⟩ | ⟨Lb, c', cs, e3, hLb, hRow, _, _⟩
    · rw [h0] at hlt; exact absurd hlt (by simp)
    · obtain ⟨rfl, rfl⟩ : A3 = some ⟨Lb, 0, none⟩ ∧ c3 = c' := by simpa using e3
      have hne : Lb ≠ w1.heap.size := by have := hLb; simp at this; omega
      obtain ⟨x, hx⟩ : ∃ x, x = L[k] := ⟨_, rfl⟩
      have hB := hS.out.1.blk hRow.1 hne
      have x0 : wr.cell? ⟨Lb, k, none⟩ = some (.int .i64 x) := by rw [hB.cell, hRow.2.2 k hlt, hx]
      have xl := hB.lt
      obtain ⟨T, hT⟩ : ∃ T, T = L.take k := ⟨_, rfl⟩
      have hTk : L.take (k + 1) = T ++ [x] := by rw [List.take_succ_eq_append_getElem hlt, hT, hx]
      have hTl : T.length ≤ 1000 := by rw [hT]; simp; omega
      have HTK := hide hTk
      rw [← hT] at hS
      have hbr : Below w.heap.size w wr := HB03.out.trans (hS.out.1.toBelow hgw HB03.out.size)
      have HBR := hide hbr
      have HC := hide (HD.out wr hbr x)
      have hBM := hS.out.1.blk HBM3.out HGN.out
      obtain ⟨a0, a1, a2, a3, a4, a5, a6, a7, a8, a9, a10⟩ := MB.cells hBM
      have al := hBM.lt
      have HSL := hide (spreadL_len m by_ T)
      clear hB hRow hBM hx hT hTk hbr e3 hLb
      rcases domI_range m by_ x with hd | hd
      · have HDx := hide hd
        have hlt0 : domI m by_ x < 1 := by omega
        have HNO := hide (spreadL_no m by_ T hlt0)
        clear hd hlt0
        go_wp2_with ((with_reducible refine Calls.mono HC.out ?_); rintro e w5 ⟨he, hb5⟩; rw [HDx.out] at he; subst he; have HB5 := hide hb5; clear hb5)
        go_roundw
        case rel => exact ⟨k + 1, by omega, by go_num, hS.out.1.trans (Besides.below HB5.out), by rw [HTK.out, HNO.out]; exact hS.out.2.below HB5.out hS.out.2.lt⟩
        case measure => simp [intOf]; omega
      · obtain ⟨d, hd1, hd2⟩ : ∃ d : Nat, domI m by_ x = (d : Int) + 1 ∧ d < n := ⟨(domI m by_ x - 1).toNat, by omega, by have := HNI.out; omega⟩
        have hds : d < (spreadL m by_ T).length := by rw [HSL.out, HNI.out]; simpa using hd2
        have HDx := hide hd1
        have HYS := hide (spreadL_yes m by_ T hd1 hds)
        have hle := spreadL_le m by_ T hds
        obtain ⟨s, hs⟩ : ∃ s, s = (spreadL m by_ T)[d] := ⟨_, rfl⟩
        rw [← hs] at HYS hle
        have hs0 : 0 ≤ s := hle.1
        have hs1 : s ≤ 1000 := by omega
        have HCL := hide (show ((spreadL m by_ T).map (Value.int .i64)).toArray[d]? = some (.int .i64 s) by simp [hds, hs])
        have hdI : (d : Int) < (n : Int) := by omega
        have hd0 : (0 : Int) ≤ (d : Int) := by omega
        clear hd hd1 hle hs
        go_wp2_with ((with_reducible refine Calls.mono HC.out ?_); rintro e w5 ⟨he, hb5⟩; rw [HDx.out] at he; subst he
                     have hG5 := hS.out.2.below hb5 hS.out.2.lt
                     have g0 : w5.cell? ⟨w1.heap.size, d, none⟩ = some (.int .i64 s) := by rw [hG5.cell, HCL.out]
                     have gf := hG5.frozen d
                     have gl := hG5.lt
                     have HG5 := hide hG5
                     have HB5 := hide hb5
                     clear hb5 hG5)
        go_roundw
        case rel => exact ⟨k + 1, by omega, by go_num, (hS.out.1.trans (Besides.below HB5.out)).trans (Besides.set_ _ _ _), by
         rw [HTK.out, HYS.out]
         have := HG5.out.set_ d (.int .i64 (s + 1))
         simpa [List.map_set] using this⟩
        case measure => simp [intOf]; omega
  · obtain rfl : k = L.length := by omega
    have hS := hS.out
    rw [List.take_length] at hS
    have HS := hide hS
    clear hS
    go_wp2_with fail
    go_ret
    have hlen : (spreadP m p item by_).length = n := by rw [spreadP_eq, spreadL_len, HNI.out]; rfl
    have hx : maxLen = 9223372036854775807 := by decide
    have hsp : spreadP m p item by_ = spreadL m by_ L := by rw [spreadP_eq, HL.out]
    have := RowI.own (B := w.heap.size) (w := wr) (L := w1.heap.size) (c := n) (cs := ((spreadL m by_ L).map (Value.int .i64)).toArray) (l := spreadP m p item by_) ⟨HS.out.2, by rw [hsp]; simp, fun j hj => by rw [hsp] at hj; simp [hsp, hj]⟩ hgw (by rw [← hlen, hsp]; simp) (by omega)
    rw [hlen] at this
    exact ⟨_, rfl, this, HB03.out.trans (HS.out.1.toBelow hgw HB03.out.size)⟩
end Go.Proofs.YtlnjaemdelnceaaGreatDoor
