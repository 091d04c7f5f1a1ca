/- A part of the claim: see its last text. -/
import Derived.Test.YtaepcjklimigmaaGreatDoorDK36
import Derived.Test.YtaepcjklimigmaaGreatDoorDK35
import Derived.Test.YtaepcjklimigmaaGreatDoorDK15
import Derived.Test.YtaepcjklimigmaaGreatDoorDK12

set_option maxRecDepth 100000
set_option maxHeartbeats 16000000
namespace Go.Proofs.YtaepcjklimigmaaGreatDoor
open Go Go.RowKit Go.Proofs
def hostCells (l : List (Int × Int)) : List Value := l.flatMap fun b => [.int .i64 b.1, .int .i64 0, .int .i64 b.2, .int .i64 0, .int .i64 0]
theorem hostCells_append (a b : List (Int × Int)) : hostCells (a ++ b) = hostCells a ++ hostCells b := by simp [hostCells]
theorem hostCells_one (l : List (Int × Int)) : ∀ u ∈ hostCells l, u.oneCell' = true := by
 intro u hu
 simp only [hostCells, List.mem_flatMap] at hu
 obtain ⟨b, _, hu⟩ := hu
 simp at hu
 rcases hu with rfl | rfl | rfl | rfl <;> rfl
theorem hostCells_at (l : List (Int × Int)) : ∀ k (hk : k < l.length), (hostCells l)[k * 5]? = some (.int .i64 l[k].1) ∧ (hostCells l)[k * 5 + 1]? = some (.int .i64 0) ∧ (hostCells l)[k * 5 + 2]? = some (.int .i64 l[k].2) ∧ (hostCells l)[k * 5 + 3]? = some (.int .i64 0) ∧ (hostCells l)[k * 5 + 4]? = some (.int .i64 0) := by
 induction l with
 | nil => intro k hk; simp at hk
 | cons b l ih =>
   intro k hk
   cases k with
   | zero => simp [hostCells]
   | succ k =>
     have := ih k (by simpa using hk)
     have e : ∀ j, (hostCells (b :: l))[(k + 1) * 5 + j]? = (hostCells l)[k * 5 + j]? := fun j => by
      have : (k + 1) * 5 + j = (k * 5 + j) + 5 := by omega
      rw [this]
      simp [hostCells]
     exact ⟨(e 0).trans this.1, (e 1).trans this.2.1, (e 2).trans this.2.2.1, (e 3).trans this.2.2.2.1, (e 4).trans this.2.2.2.2⟩
def OwnH (B : Nat) (w : World) (v : Value) (l : List (Int × Int)) : Prop := w.ownsRow B 52 5 v l.length (hostCells l)
theorem infoH : (Tryz.prog.info? 52).map (fun i => (i.zero, i.size, i.bytes)) = some (some (.agg #[.int .i64 0, .int .i64 0, .int .i64 0, .int .i64 0, .int .i64 0]), 5, 40) := by kernel_rfl
theorem OwnH.nil_ (B : Nat) (w : World) : OwnH B w (.slice none 0 0) [] := World.ownsRow_nil _ _ _ _
theorem OwnH.empty (w : World) : OwnH w.heap.size (w.alloc (.cells #[] 52)) (.slice (some ⟨w.heap.size, 0, none⟩) 0 0) [] := by
 have := World.ownsRow_lit (e := 52) (size := 5) w #[] 0 (Nat.le_refl _) (by decide) (by simp)
 simpa [OwnH, hostCells] using this
theorem OwnH.lt {B : Nat} {w : World} {v : Value} {l : List (Int × Int)} (h : OwnH B w v l) : ∀ k, v.ownBlock = some k → B ≤ k ∧ k < w.heap.size := World.ownsRow.lt h
theorem OwnH.below {B : Nat} {w w' : World} {v : Value} {l : List (Int × Int)} (h : OwnH B w v l) (hb : Below w.heap.size w w') : OwnH B w' v l := by
 refine ⟨h.1, ?_⟩
 rcases h.2 with h0 | ⟨g, cap, cur, e, hB, hh, h4⟩
 · exact .inl h0
 · exact .inr ⟨g, cap, cur, e, hB, Blk.below hh hb (Blk.lt hh), h4⟩
def RdH (w : World) (A : Option Addr) (l : List (Int × Int)) : Prop := ∀ k (hk : k < l.length), ∃ b off, A = some ⟨b, off, none⟩ ∧ b < w.heap.size ∧
 w.cell? ⟨b, off + k * 5, none⟩ = some (.int .i64 l[k].1) ∧ w.cell? ⟨b, off + k * 5 + 1, none⟩ = some (.int .i64 0) ∧ w.cell? ⟨b, off + k * 5 + 2, none⟩ = some (.int .i64 l[k].2) ∧ w.cell? ⟨b, off + k * 5 + 3, none⟩ = some (.int .i64 0) ∧ w.cell? ⟨b, off + k * 5 + 4, none⟩ = some (.int .i64 0)
theorem RdH.grow {w w' : World} {A : Option Addr} {l : List (Int × Int)} (h : RdH w A l) (hb : Below w.heap.size w w') : RdH w' A l := fun k hk => by
 obtain ⟨b, off, e, hl, h0, h1, h2, h3, h4⟩ := h k hk
 exact ⟨b, off, e, Nat.lt_of_lt_of_le hl hb.size, (hb.cell (by exact hl)).trans h0, (hb.cell (by exact hl)).trans h1, (hb.cell (by exact hl)).trans h2, (hb.cell (by exact hl)).trans h3, (hb.cell (by exact hl)).trans h4⟩
theorem OwnH.rd {B : Nat} {w : World} {v : Value} {l : List (Int × Int)} (h : OwnH B w v l) : ∃ A c, v = .slice A l.length c ∧ RdH w A l := by
 rcases h.2 with ⟨rfl, h0⟩ | ⟨g, cap, cur, rfl, _, hh, hc, hm, _, ht⟩
 · have : l = [] := List.eq_nil_of_length_eq_zero h0
   subst this
   exact ⟨none, 0, rfl, fun k hk => absurd hk (by simp)⟩
 · refine ⟨_, cap, rfl, fun k hk => ⟨g, 0, rfl, Blk.lt hh, ?_⟩⟩
   have hx : ∀ j u, (hostCells l)[j]? = some u → w.cell? ⟨g, 0 + j, none⟩ = some u := fun j u hu => by
    rw [Nat.zero_add, Blk.cell hh j]
    rw [← ht, List.getElem?_take] at hu
    split at hu
    · simpa using hu
    · cases hu
   obtain ⟨h0, h1, h2, h3, h4⟩ := hostCells_at l k hk
   exact ⟨hx _ _ h0, hx _ _ h1, hx _ _ h2, hx _ _ h3, hx _ _ h4⟩
theorem append_host {ops : Array Oper} {rest : List Oper} {o : Oper} {a : Act} {Q : Exit → Act → World → Prop} {w : World} (hgd : o.guard = none) (s x : Operand)
    (ho : o.op = .call { callee := .builtin .append, args := #[s, x], argTypes := #[41, 41] })
    (base : Nat) (v : Value) (l : List (Int × Int)) (hs : a.eval s = v) (hown : OwnH base w v l)
    (B : Nat) (A : Option Addr) (c : Nat) (b : Int × Int) (hx : a.eval x = .slice A 1 c) (hr : Reads w B 5 A 1 (hostCells [b]))
    (hlen : l.length + 1 ≤ 1000000) (hbase : base ≤ w.heap.size)
    (h : ∀ v' w', OwnH base w' v' (l ++ [b]) → w.grownBy w' v.ownBlock → wpList Tryz.prog ops Q rest (a.put o.dst v') w') : wpList Tryz.prog ops Q (o :: rest) a w := by
 obtain ⟨i0, hi, hz0, hz1, hz2⟩ := info_parts infoH
 refine wpList_plain hgd fun _ hK => wp_append_any w s x 41 ho base 52 i0 _ 5 40 Tryz.underlying41 hi hz0 hz1 hz2 rfl (by omega) v l.length (hostCells l) hs hown B A 1 c (hostCells [b]) hx hr (hostCells_one [b]) (by unfold maxLen; omega) (by omega) hbase
  fun v' w' h2 h3 _ => hK _ _ (h v' w' ?_ h3)
 unfold OwnH; rw [hostCells_append, List.length_append]; exact h2
theorem newHost (w : World) (a b : Int) : Reads (w.alloc (.cells #[.int .i64 a, .int .i64 0, .int .i64 b, .int .i64 0, .int .i64 0] 52)) (w.heap.size + 1) 5 (some ⟨w.heap.size, 0, none⟩) 1 (hostCells [(a, b)]) :=
 ⟨rfl, fun _ => ⟨_, rfl, by simp, fun j u hu => by rw [add_none, Nat.zero_add, cell?_new]; simpa [hostCells] using hu⟩⟩
def DarkR (w : World) (ds : List (Int × Int)) (e : Ending) (w' : World) : Prop := ∃ A c, e = .returned (.slice A ds.length c) ∧ RdH w' A ds ∧ Below w.heap.size w w'
theorem firstI_lt {α : Type} {p : α → Bool} {l : List α} (h : 0 ≤ firstI p l) : (firstI p l).toNat < l.length ∧ firstI p l = ((firstI p l).toNat : Int) := by
 unfold firstI at h ⊢
 cases hf : l.findIdx? p with
 | none => rw [hf] at h; simp at h
 | some k =>
   rw [List.findIdx?_eq_some_iff_getElem] at hf
   exact ⟨by simpa using hf.1, by simp⟩
structure DkW (w : World) (h : MH) (m : Mod) (bx : Nat) (u : UnitM) (w3 W : World) : Prop where
 s : Blk W w.heap.size 29 #[.slice h.s m.sT.length h.sc, .slice h.f m.fT.length h.fc, .slice h.r m.rT.length h.rc, .slice h.m m.mT.length h.mc, .slice h.l m.lT.length h.lc, .slice h.i m.iT.length h.ic, .int .i64 m.dT, .int .i64 m.oT, .int .i64 m.vT, .int .i64 m.aT, .slice h.u m.uT.length h.uc]
 u : Blk W bx 88 #[.int .i64 u.1, .int .i64 u.2]
 b : Below w3.heap.size w3 W
theorem DkW.drew {w : World} {h : MH} {m : Mod} {bx : Nat} {u : UnitM} {w3 W : World} (s : DkW w h m bx u w3 W) : DkW w h m bx u w3 W.drew := ⟨s.s.drew, s.u.drew, s.b.drew⟩
theorem DkW.grow {w : World} {h : MH} {m : Mod} {bx : Nat} {u : UnitM} {w3 W W' : World} (s : DkW w h m bx u w3 W) (hb : Below W.heap.size W W') : DkW w h m bx u w3 W' := ⟨s.s.below hb s.s.lt, s.u.below hb s.u.lt, s.b.trans (hb.mono s.b.size)⟩
theorem DkW.cells {w : World} {h : MH} {m : Mod} {bx : Nat} {u : UnitM} {w3 W : World} (s : DkW w h m bx u w3 W) : (W.cell? ⟨w.heap.size, 0, none⟩ = some (.slice h.s m.sT.length h.sc) ∧ W.cell? ⟨w.heap.size, 1, none⟩ = some (.slice h.f m.fT.length h.fc) ∧ W.cell? ⟨w.heap.size, 2, none⟩ = some (.slice h.r m.rT.length h.rc) ∧ W.cell? ⟨w.heap.size, 3, none⟩ = some (.slice h.m m.mT.length h.mc) ∧ W.cell? ⟨w.heap.size, 4, none⟩ = some (.slice h.l m.lT.length h.lc) ∧ W.cell? ⟨w.heap.size, 5, none⟩ = some (.slice h.i m.iT.length h.ic) ∧ W.cell? ⟨w.heap.size, 6, none⟩ = some (.int .i64 m.dT) ∧ W.cell? ⟨w.heap.size, 7, none⟩ = some (.int .i64 m.oT) ∧ W.cell? ⟨w.heap.size, 8, none⟩ = some (.int .i64 m.vT) ∧ W.cell? ⟨w.heap.size, 9, none⟩ = some (.int .i64 m.aT) ∧ W.cell? ⟨w.heap.size, 10, none⟩ = some (.slice h.u m.uT.length h.uc)) ∧ W.cell? ⟨bx, 0, none⟩ = some (.int .i64 u.1) ∧ W.cell? ⟨bx, 1, none⟩ = some (.int .i64 u.2) := ⟨MB.cells s.s, s.u.cell 0, s.u.cell 1⟩
def DkI (m : Mod) (P : PlaceM) (w3 : World) (v i : Value) (wr : World) : Prop := ∃ k : Nat, k ≤ P.length ∧ i = .int .i64 k ∧ Hid (OwnH w3.heap.size wr v (darkTo m P k)) ∧ Below w3.heap.size w3 wr
def DkJ (m : Mod) (P : PlaceM) (k : Nat) (us : List UnitM) (w3 : World) (v i : Value) (wr : World) : Prop := ∃ j : Nat, j ≤ us.length ∧ i = .int .i64 j ∧ Hid (OwnH w3.heap.size wr v (darkTo m P k ++ (us.take j).flatMap (darkU m k))) ∧ Below w3.heap.size w3 wr
theorem dark_no (h : MH) (m : Mod) (l : List EvM) (A : Option Addr) (c : Nat) (w : World) (d : MD w w.heap.size h m) (k1 : m.rT.length ≤ h.rc) (k2 : m.mT.length ≤ h.mc) (k3 : m.lT.length ≤ h.lc) (ha : Asc w) (hv : validM m = true)
    (hE : Rows encEv 22 w w.heap.size A l) (hl : l.length ≤ 1000) (hdk : darkI l < 0) :
    Calls Tryz.prog 19 #[.agg #[.slice h.s m.sT.length h.sc, .slice h.f m.fT.length h.fc, .slice h.r m.rT.length h.rc, .slice h.m m.mT.length h.mc, .slice h.l m.lT.length h.lc, .slice h.i m.iT.length h.ic, .int .i64 m.dT, .int .i64 m.oT, .int .i64 m.vT, .int .i64 m.aT, .slice h.u m.uT.length h.uc], .slice A l.length c] w (DarkR w []) := by
 have hb := (Below.refl w.heap.size w).alloc (Nat.le_refl _) (.cells #[.slice h.s m.sT.length h.sc, .slice h.f m.fT.length h.fc, .slice h.r m.rT.length h.rc, .slice h.m m.mT.length h.mc, .slice h.l m.lT.length h.lc, .slice h.i m.iT.length h.ic, .int .i64 m.dT, .int .i64 m.oT, .int .i64 m.vT, .int .i64 m.aT, .slice h.u m.uT.length h.uc] 29)
 have HB := hide hb
 have HM0 := hide (Blk.new w 29 #[.slice h.s m.sT.length h.sc, .slice h.f m.fT.length h.fc, .slice h.r m.rT.length h.rc, .slice h.m m.mT.length h.mc, .slice h.l m.lT.length h.lc, .slice h.i m.iT.length h.ic, .int .i64 m.dT, .int .i64 m.oT, .int .i64 m.vT, .int .i64 m.aT, .slice h.u m.uT.length h.uc])
 have HDA := hide (darkness_prog A c l _ (by omega) (hE.grow hb))
 have HV := hide (fun W (hW : Below w.heap.size w W) => validM_prog h m W (d.grow hW) k1 k2 k3 (ha.below (Nat.le_refl _) hW) hv)
 obtain ⟨dk, hdk2⟩ : ∃ dk, dk = darkI l := ⟨_, rfl⟩
 rw [← hdk2] at HDA hdk
 clear hb d k1 k2 k3 ha hv hE hdk2
 go_enter Tryz.func19, Tryz.ntmps19
 go_wp2_with (first
  | (go_at_call 46; refine HDA.out.mono ?_; rintro e w1 ⟨rfl, hb1⟩; have HB1 := hide (HB.out.trans (hb1.mono HB.out.size)); have hm1 := HM0.out.below hb1 (by simp); obtain ⟨a0, a1, a2, a3, a4, a5, a6, a7, a8, a9, a10⟩ := MB.cells hm1; have al := hm1.lt; have HVV := hide (HV.out w1 HB1.out); clear hb1 hm1)
  | (go_at_call 35; refine HVV.out.mono ?_; rintro e w2 ⟨rfl, hb2⟩; have HB2 := hide (HB1.out.trans (hb2.mono HB1.out.size)); clear hb2))
 go_ret
 exact ⟨none, 0, rfl, fun k hk => absurd hk (by simp), HB2.out⟩
theorem dark_yes (h : MH) (m : Mod) (l : List EvM) (n : Nat) (A : Option Addr) (c : Nat) (w : World) (d : MD w w.heap.size h m) (k1 : m.rT.length ≤ h.rc) (k2 : m.mT.length ≤ h.mc) (k3 : m.lT.length ≤ h.lc) (ha : Asc w) (hv : validM m = true)
    (hE : Rows encEv 22 w w.heap.size A l) (hl : l.length ≤ 1000) (hlc : l.length ≤ c) (hcm : c ≤ 9223372036854775807) (hold : ∀ x ∈ l, x.old.length ≤ 10) (hn : n < l.length) (hdk : darkI l = (n : Int)) :
    Calls Tryz.prog 19 #[.agg #[.slice h.s m.sT.length h.sc, .slice h.f m.fT.length h.fc, .slice h.r m.rT.length h.rc, .slice h.m m.mT.length h.mc, .slice h.l m.lT.length h.lc, .slice h.i m.iT.length h.ic, .int .i64 m.dT, .int .i64 m.oT, .int .i64 m.vT, .int .i64 m.aT, .slice h.u m.uT.length h.uc], .slice A l.length c] w (DarkR w (darkTo m (placeAt m l n) m.iT.length)) := by
 have hb := (Below.refl w.heap.size w).alloc (Nat.le_refl _) (.cells #[.slice h.s m.sT.length h.sc, .slice h.f m.fT.length h.fc, .slice h.r m.rT.length h.rc, .slice h.m m.mT.length h.mc, .slice h.l m.lT.length h.lc, .slice h.i m.iT.length h.ic, .int .i64 m.dT, .int .i64 m.oT, .int .i64 m.vT, .int .i64 m.aT, .slice h.u m.uT.length h.uc] 29)
 have HB := hide hb
 have HM0 := hide (Blk.new w 29 #[.slice h.s m.sT.length h.sc, .slice h.f m.fT.length h.fc, .slice h.r m.rT.length h.rc, .slice h.m m.mT.length h.mc, .slice h.l m.lT.length h.lc, .slice h.i m.iT.length h.ic, .int .i64 m.dT, .int .i64 m.oT, .int .i64 m.vT, .int .i64 m.aT, .slice h.u m.uT.length h.uc])
 have HDA := hide (darkness_prog A c l _ (by omega) (hE.grow hb))
 have HV := hide (fun W (hW : Below w.heap.size w W) => validM_prog h m W (d.grow hW) k1 k2 k3 (ha.below (Nat.le_refl _) hW) hv)
 obtain ⟨s1, s2, s3, s4, s5, s6⟩ := valid_sizes hv
 have htl : (l.take n).length = n := by simp; omega
 have HP := hide (fun W (hW : Below w.heap.size w W) => placements_prog h m (l.take n) A c W (d.grow hW) k1 k2 k3 (ha.below (Nat.le_refl _) hW) hv ((hE.grow hW).take_ n) (by omega) (by omega) (fun y hy => by have := valid_on hv hy; omega) (by omega) (fun x hx => hold x (List.mem_of_mem_take hx)))
 rw [htl] at HP
 have HRM := hide (room_valid hv l n (by omega))
 have HD := hide (fun W (hW : Below w.heap.size w W) (x : Int) => domain_prog h m 4 x W (d.grow hW) (valid_racked hv))
 have HPL := hide (placeAt_len m l n)
 obtain ⟨pre, hpre⟩ := placesM_last m l n (by omega)
 obtain ⟨q, hq⟩ : ∃ q, q = pre.length := ⟨_, rfl⟩
 have HLN := hide (show (placesM m (l.take n)).length = q + 1 by rw [hpre, hq]; simp)
 have HLS := hide (show ∀ hh : q < (placesM m (l.take n)).length, (placesM m (l.take n))[q] = placeAt m l n by intro hh; simp [hpre, hq])
 rw [hdk] at HDA
 obtain ⟨P, hP⟩ : ∃ P, P = placeAt m l n := ⟨_, rfl⟩
 rw [← hP] at HRM HPL HLS ⊢
 have hn0 : (0 : Int) ≤ (n : Int) := by omega
 have hnI : ¬ ((n : Int) < 0) := by omega
 have hnc : (n : Int) ≤ (c : Int) := by omega
 have hil : m.iT.length ≤ 100 := by omega
 have hq60 : q ≤ 1000 := by have := placesM_len m (l.take n); rw [HLN.out, htl] at this; omega
 clear hb d k1 k2 k3 ha hv hE hdk hpre hq hP s1 s2 s3 s4 s5 s6 htl hold
 go_enter Tryz.func19, Tryz.ntmps19
 go_wp2_with (first
  | (go_at_call 46; refine HDA.out.mono ?_; rintro e w1 ⟨rfl, hb1⟩; have HB1 := hide (HB.out.trans (hb1.mono HB.out.size)); have hm1 := HM0.out.below hb1 (by simp); have HM1 := hide hm1; obtain ⟨a0, a1, a2, a3, a4, a5, a6, a7, a8, a9, a10⟩ := MB.cells hm1; have al := hm1.lt; have HVV := hide (HV.out w1 HB1.out); clear hb1 hm1)
  | (go_at_call 35; refine HVV.out.mono ?_; rintro e w2 ⟨rfl, hb2⟩; have HB2 := hide (HB1.out.trans (hb2.mono HB1.out.size)); have hm2 := HM1.out.below hb2 HM1.out.lt; have HS := hide (MS.mk hm2 HB2.out); clear hm2 a0 a1 a2 a3 a4 a5 a6 a7 a8 a9 a10 al hb2))
 go_region_held3 (fun W => (W.cell? ⟨w.heap.size, 0, none⟩ = some (.slice h.s m.sT.length h.sc) ∧ W.cell? ⟨w.heap.size, 1, none⟩ = some (.slice h.f m.fT.length h.fc) ∧ W.cell? ⟨w.heap.size, 2, none⟩ = some (.slice h.r m.rT.length h.rc) ∧ W.cell? ⟨w.heap.size, 3, none⟩ = some (.slice h.m m.mT.length h.mc) ∧ W.cell? ⟨w.heap.size, 4, none⟩ = some (.slice h.l m.lT.length h.lc) ∧ W.cell? ⟨w.heap.size, 5, none⟩ = some (.slice h.i m.iT.length h.ic) ∧ W.cell? ⟨w.heap.size, 6, none⟩ = some (.int .i64 m.dT) ∧ W.cell? ⟨w.heap.size, 7, none⟩ = some (.int .i64 m.oT) ∧ W.cell? ⟨w.heap.size, 8, none⟩ = some (.int .i64 m.vT) ∧ W.cell? ⟨w.heap.size, 9, none⟩ = some (.int .i64 m.aT) ∧ W.cell? ⟨w.heap.size, 10, none⟩ = some (.slice h.u m.uT.length h.uc)) ∧ MS w #[.slice h.s m.sT.length h.sc, .slice h.f m.fT.length h.fc, .slice h.r m.rT.length h.rc, .slice h.m m.mT.length h.mc, .slice h.l m.lT.length h.lc, .slice h.i m.iT.length h.ic, .int .i64 m.dT, .int .i64 m.oT, .int .i64 m.vT, .int .i64 m.aT, .slice h.u m.uT.length h.uc] W)
  ((with_reducible (first | (go_keep; done) | exact ⟨MS.cells HS.out.drew, HS.out.drew⟩ | exact ⟨MS.cells c3, c3⟩ | (have hH := (by assumption : _ ∧ MS _ _ _); exact ⟨MS.cells (MS.drew hH.2), MS.drew hH.2⟩))))
  ((go_at_call 13; have hH := And.intro (MS.cells HS.out.drew) HS.out.drew; have hbw := MS.b hH.2; refine (HP.out _ hbw).mono ?_; rintro e w3 ⟨A3, k3, rfl, _, _, hp3, hb⟩; have c3 := MS.grow hH.2 hb; clear hb hH hbw))
 obtain ⟨b9, off9, A8, c8, e8, hb9, hx9, hP9⟩ := hp3 q (by rw [HLN.out]; omega)
 rw [HLS.out] at hx9 hP9
 rw [HLN.out]
 subst e8
 have HMS := hide c3
 have HP9 := hide hP9
 have HRP := hide (show ∀ us ∈ P, us.length ≤ 800 from fun us hus => by have := HRM.out.2 us hus; omega)
 have hPl : P.length ≤ 100 := by have := HPL.out; omega
 have hq0 : (0 : Int) ≤ (q : Int) := by omega
 clear hp3 c3 hP9
 go_wp2_with fail
 clear hx9 hb9
 go_loopw [7, 35] (fun v i wr => DkI m P w3 v i wr) (fun _ i _ => P.length - (intOf i).toNat)
 case atStart => exact ⟨0, Nat.zero_le _, rfl, hide (by rw [show darkTo m P 0 = [] from rfl]; exact OwnH.nil_ _ _), Below.refl _ _⟩
 case round =>
  obtain ⟨k, hk, rfl, hO, hbr⟩ := hrel
  by_cases hlt : k < P.length
  · obtain ⟨b, off, A2, c2, hA, hb, x0, hu⟩ := HP9.out.at_ hlt
    obtain ⟨us, hus⟩ : ∃ us, us = P[k] := ⟨_, rfl⟩
    have HUP := hide (show unitsP P ((k : Int) + 1) = us by rw [unitsP_yes hlt, hus])
    have husl : us.length ≤ 800 := by rw [hus]; exact HRP.out _ (List.getElem_mem hlt)
    rw [← hus] at x0 hu
    have z0 := (hbr.cell (p := ⟨b, off + k, none⟩) hb).trans x0
    have zl := Nat.lt_of_lt_of_le hb hbr.size
    have HU := hide hu
    have HBR := hide hbr
    have HLT := hide hlt
    subst hA
    clear hu hbr hus x0 hb
    go_wp2_with fail
    clear z0 zl
    go_loopw [7, 42] (fun v i wr => DkJ m P k us w3 v i wr) (fun _ i _ => us.length - (intOf i).toNat)
    case atStart => exact ⟨0, Nat.zero_le _, rfl, hide (by simpa using hO.out), HBR.out⟩
    case round =>
     clear hO
     obtain ⟨j, hj, rfl, hO, hbr⟩ := hrel
     by_cases hlj : j < us.length
     · obtain ⟨b1, o1, e1, hb1, y0, y1⟩ := (HU.out.keep (KT.below hbr)).at_ hlj
       obtain ⟨u, hu⟩ : ∃ u, u = us[j] := ⟨_, rfl⟩
       rw [← hu] at y0 y1
       have hfx : (us.take (j + 1)).flatMap (darkU m k) = (us.take j).flatMap (darkU m k) ++ darkU m k u := by
        rw [List.take_succ_eq_append_getElem hlj, List.flatMap_append, hu]; simp
       have HFX := hide hfx
       have HLJ := hide hlj
       obtain ⟨L, hL⟩ : ∃ L, L = darkTo m P k ++ (us.take j).flatMap (darkU m k) := ⟨_, rfl⟩
       have HLL := hide (show L.length ≤ 100000 by
        rw [hL, List.length_append]
        have q1 := darkTo_len (m := m) HRM.out k
        have q2 := flat_len (darkU_len m k) (us.take j)
        have q3 : k * 16 ≤ 100 * 16 := Nat.mul_le_mul (by have := HLT.out; omega) (Nat.le_refl _)
        rw [List.length_take] at q2; omega)
       have HL := hide hL
       rw [← hL] at hO
       have hba : Below w3.heap.size w3 (wr.alloc (.cells #[.int .i64 u.1, .int .i64 u.2] 88)) := hbr.alloc hbr.size _
       have HS := hide (show DkW w h m wr.heap.size u w3 (wr.alloc (.cells #[.int .i64 u.1, .int .i64 u.2] 88)) from ⟨HMS.out.m.below hba HMS.out.m.lt, Blk.new wr _ _, hba⟩)
       obtain ⟨dv, hdv⟩ : ∃ dv, dv = domI m 4 u.1 := ⟨_, rfl⟩
       have HC := hide (HD.out _ (HMS.out.b.trans (HS.out.drew.b.mono HMS.out.b.size)) u.1)
       rw [show DomR m 4 u.1 (wr.alloc (.cells #[.int .i64 u.1, .int .i64 u.2] 88)).drew = fun e w' => e = .returned (.int .i64 dv) ∧ Below (wr.alloc (.cells #[.int .i64 u.1, .int .i64 u.2] 88)).drew.heap.size (wr.alloc (.cells #[.int .i64 u.1, .int .i64 u.2] 88)).drew w' by rw [hdv]; rfl] at HC
       have HDU := hide (show darkU m k u = if dv = m.dT then [((k : Int) + 1, if u.2 = 2 then 2 else 0)] else [] by rw [darkU, hdv])
       have hB : ∀ b : Bool, b = false ∨ b = true := fun b => by cases b <;> simp
       have hbl1 := Nat.lt_of_lt_of_le hb1 (Nat.le_refl _)
       subst e1
       clear hfx hu hL hba hbr hdv hlj
       rcases hB (dv == m.dT) with hq | hq
       · have HE := hide (show darkU m k u = [] by rw [HDU.out, if_neg (by simpa using hq)])
         go_wp2_with fail
         go_region_held3 (fun W => ((W.cell? ⟨w.heap.size, 0, none⟩ = some (.slice h.s m.sT.length h.sc) ∧ W.cell? ⟨w.heap.size, 1, none⟩ = some (.slice h.f m.fT.length h.fc) ∧ W.cell? ⟨w.heap.size, 2, none⟩ = some (.slice h.r m.rT.length h.rc) ∧ W.cell? ⟨w.heap.size, 3, none⟩ = some (.slice h.m m.mT.length h.mc) ∧ W.cell? ⟨w.heap.size, 4, none⟩ = some (.slice h.l m.lT.length h.lc) ∧ W.cell? ⟨w.heap.size, 5, none⟩ = some (.slice h.i m.iT.length h.ic) ∧ W.cell? ⟨w.heap.size, 6, none⟩ = some (.int .i64 m.dT) ∧ W.cell? ⟨w.heap.size, 7, none⟩ = some (.int .i64 m.oT) ∧ W.cell? ⟨w.heap.size, 8, none⟩ = some (.int .i64 m.vT) ∧ W.cell? ⟨w.heap.size, 9, none⟩ = some (.int .i64 m.aT) ∧ W.cell? ⟨w.heap.size, 10, none⟩ = some (.slice h.u m.uT.length h.uc)) ∧ W.cell? ⟨wr.heap.size, 0, none⟩ = some (.int .i64 u.1) ∧ W.cell? ⟨wr.heap.size, 1, none⟩ = some (.int .i64 u.2)) ∧ DkW w h m wr.heap.size u w3 W)
          ((with_reducible (first | (go_keep; done) | exact ⟨DkW.cells HS.out.drew, HS.out.drew⟩ | exact ⟨DkW.cells c7, c7⟩ | (have hH := (by assumption : _ ∧ DkW _ _ _ _ _ _ _); exact ⟨DkW.cells (DkW.drew hH.2), DkW.drew hH.2⟩))))
          (((with_reducible refine HC.out.mono ?_); rintro e w5 ⟨rfl, hb5⟩; have c7 := DkW.grow HS.out.drew hb5))
         have HO5 := hide ((hO.out.below ((Below.refl wr.heap.size wr).alloc (Nat.le_refl _) (.cells #[.int .i64 u.1, .int .i64 u.2] 88))).below ((Below.refl _ _).drew.trans hb5))
         go_wp2_with fail
         go_roundw
         case rel => exact ⟨j + 1, HLJ.out, by go_num, hide (by rw [HFX.out, HE.out, List.append_nil, ← HL.out]; exact HO5.out), c7.b⟩
         case measure => have := HLJ.out; simp [intOf]; omega
       · rcases hB (u.2 == 2) with hp | hp
         · have HE := hide (show darkU m k u = [((k : Int) + 1, 0)] by rw [HDU.out, if_pos (by simpa using hq)]; simp at hp; simp [hp])
           go_wp2_with fail
           go_region_held3 (fun W => ((W.cell? ⟨w.heap.size, 0, none⟩ = some (.slice h.s m.sT.length h.sc) ∧ W.cell? ⟨w.heap.size, 1, none⟩ = some (.slice h.f m.fT.length h.fc) ∧ W.cell? ⟨w.heap.size, 2, none⟩ = some (.slice h.r m.rT.length h.rc) ∧ W.cell? ⟨w.heap.size, 3, none⟩ = some (.slice h.m m.mT.length h.mc) ∧ W.cell? ⟨w.heap.size, 4, none⟩ = some (.slice h.l m.lT.length h.lc) ∧ W.cell? ⟨w.heap.size, 5, none⟩ = some (.slice h.i m.iT.length h.ic) ∧ W.cell? ⟨w.heap.size, 6, none⟩ = some (.int .i64 m.dT) ∧ W.cell? ⟨w.heap.size, 7, none⟩ = some (.int .i64 m.oT) ∧ W.cell? ⟨w.heap.size, 8, none⟩ = some (.int .i64 m.vT) ∧ W.cell? ⟨w.heap.size, 9, none⟩ = some (.int .i64 m.aT) ∧ W.cell? ⟨w.heap.size, 10, none⟩ = some (.slice h.u m.uT.length h.uc)) ∧ W.cell? ⟨wr.heap.size, 0, none⟩ = some (.int .i64 u.1) ∧ W.cell? ⟨wr.heap.size, 1, none⟩ = some (.int .i64 u.2)) ∧ DkW w h m wr.heap.size u w3 W)
            ((with_reducible (first | (go_keep; done) | exact ⟨DkW.cells HS.out.drew, HS.out.drew⟩ | exact ⟨DkW.cells c7, c7⟩ | (have hH := (by assumption : _ ∧ DkW _ _ _ _ _ _ _); exact ⟨DkW.cells (DkW.drew hH.2), DkW.drew hH.2⟩))))
            (((with_reducible refine HC.out.mono ?_); rintro e w5 ⟨rfl, hb5⟩; have c7 := DkW.grow HS.out.drew hb5))
           have HO5 := hide ((hO.out.below ((Below.refl wr.heap.size wr).alloc (Nat.le_refl _) (.cells #[.int .i64 u.1, .int .i64 u.2] 88))).below ((Below.refl _ _).drew.trans hb5))
           have u1 := c7.u.cell 1
           have ul := c7.u.lt
           simp at u1
           have hb6 : Below w5.heap.size w5 ((w5.alloc (.cells #[.int .i64 ((k : Int) + 1), .int .i64 0, .int .i64 0, .int .i64 0, .int .i64 0] 52)).alloc (.cells #[.int .i64 ((k : Int) + 1), .int .i64 0, .int .i64 0, .int .i64 0, .int .i64 0] 52)) := ((Below.refl _ _).alloc (Nat.le_refl _) _).alloc (by simp) _
           have HB6 := hide (c7.b.trans (hb6.mono c7.b.size))
           have HO6 := hide (HO5.out.below hb6)
           have hr6 := newHost (w5.alloc (.cells #[.int .i64 ((k : Int) + 1), .int .i64 0, .int .i64 0, .int .i64 0, .int .i64 0] 52)) ((k : Int) + 1) 0
           rw [World.size_alloc] at hr6
           have HR6 := hide hr6
           have hlL : L.length + 1 ≤ 1000000 := by have := HLL.out; omega
           clear hb6 hr6 c7 hb5
           go_wp2_with (at_builtin; refine append_host rfl _ _ rfl w3.heap.size _ L rfl HO6.out _ _ _ ((k : Int) + 1, 0) rfl HR6.out hlL HB6.out.size ?_; intro v3 w6 ho3 hg3; have ho3 := hide ho3; have hg3 := hide hg3)
           have hb7 := HB6.out.grown hg3.out HB6.out.size (fun g hg => (HO6.out.lt g hg).1)
           go_roundw
           case rel => exact ⟨j + 1, HLJ.out, by go_num, hide (by rw [HFX.out, HE.out, ← List.append_assoc, ← HL.out]; exact ho3.out), hb7⟩
           case measure => have := HLJ.out; simp [intOf]; omega
         · have HE := hide (show darkU m k u = [((k : Int) + 1, 2)] by rw [HDU.out, if_pos (by simpa using hq)]; simp at hp; simp [hp])
           go_wp2_with fail
           go_region_held3 (fun W => ((W.cell? ⟨w.heap.size, 0, none⟩ = some (.slice h.s m.sT.length h.sc) ∧ W.cell? ⟨w.heap.size, 1, none⟩ = some (.slice h.f m.fT.length h.fc) ∧ W.cell? ⟨w.heap.size, 2, none⟩ = some (.slice h.r m.rT.length h.rc) ∧ W.cell? ⟨w.heap.size, 3, none⟩ = some (.slice h.m m.mT.length h.mc) ∧ W.cell? ⟨w.heap.size, 4, none⟩ = some (.slice h.l m.lT.length h.lc) ∧ W.cell? ⟨w.heap.size, 5, none⟩ = some (.slice h.i m.iT.length h.ic) ∧ W.cell? ⟨w.heap.size, 6, none⟩ = some (.int .i64 m.dT) ∧ W.cell? ⟨w.heap.size, 7, none⟩ = some (.int .i64 m.oT) ∧ W.cell? ⟨w.heap.size, 8, none⟩ = some (.int .i64 m.vT) ∧ W.cell? ⟨w.heap.size, 9, none⟩ = some (.int .i64 m.aT) ∧ W.cell? ⟨w.heap.size, 10, none⟩ = some (.slice h.u m.uT.length h.uc)) ∧ W.cell? ⟨wr.heap.size, 0, none⟩ = some (.int .i64 u.1) ∧ W.cell? ⟨wr.heap.size, 1, none⟩ = some (.int .i64 u.2)) ∧ DkW w h m wr.heap.size u w3 W)
            ((with_reducible (first | (go_keep; done) | exact ⟨DkW.cells HS.out.drew, HS.out.drew⟩ | exact ⟨DkW.cells c7, c7⟩ | (have hH := (by assumption : _ ∧ DkW _ _ _ _ _ _ _); exact ⟨DkW.cells (DkW.drew hH.2), DkW.drew hH.2⟩))))
            (((with_reducible refine HC.out.mono ?_); rintro e w5 ⟨rfl, hb5⟩; have c7 := DkW.grow HS.out.drew hb5))
           have HO5 := hide ((hO.out.below ((Below.refl wr.heap.size wr).alloc (Nat.le_refl _) (.cells #[.int .i64 u.1, .int .i64 u.2] 88))).below ((Below.refl _ _).drew.trans hb5))
           have u1 := c7.u.cell 1
           have ul := c7.u.lt
           simp at u1
           have hb6 : Below w5.heap.size w5 ((w5.alloc (.cells #[.int .i64 ((k : Int) + 1), .int .i64 0, .int .i64 2, .int .i64 0, .int .i64 0] 52)).alloc (.cells #[.int .i64 ((k : Int) + 1), .int .i64 0, .int .i64 2, .int .i64 0, .int .i64 0] 52)) := ((Below.refl _ _).alloc (Nat.le_refl _) _).alloc (by simp) _
           have HB6 := hide (c7.b.trans (hb6.mono c7.b.size))
           have HO6 := hide (HO5.out.below hb6)
           have hr6 := newHost (w5.alloc (.cells #[.int .i64 ((k : Int) + 1), .int .i64 0, .int .i64 2, .int .i64 0, .int .i64 0] 52)) ((k : Int) + 1) 2
           rw [World.size_alloc] at hr6
           have HR6 := hide hr6
           have hlL : L.length + 1 ≤ 1000000 := by have := HLL.out; omega
           clear hb6 hr6 c7 hb5
           go_wp2_with (at_builtin; refine append_host rfl _ _ rfl w3.heap.size _ L rfl HO6.out _ _ _ ((k : Int) + 1, 2) rfl HR6.out hlL HB6.out.size ?_; intro v3 w6 ho3 hg3; have ho3 := hide ho3; have hg3 := hide hg3)
           have hb7 := HB6.out.grown hg3.out HB6.out.size (fun g hg => (HO6.out.lt g hg).1)
           go_roundw
           case rel => exact ⟨j + 1, HLJ.out, by go_num, hide (by rw [HFX.out, HE.out, ← List.append_assoc, ← HL.out]; exact ho3.out), hb7⟩
           case measure => have := HLJ.out; simp [intOf]; omega
     · obtain rfl : j = us.length := by omega
       have hO2 := hO.out
       rw [List.take_length] at hO2
       have HO2 := hide hO2
       clear hO hO2
       go_wp2_with fail
       go_roundw
       case rel => exact ⟨k + 1, HLT.out, by go_num, hide (by rw [darkTo_succ, darkRow, HUP.out]; exact HO2.out), hbr⟩
       case measure => have := HLT.out; simp [intOf]; omega
  · obtain rfl : k = P.length := by omega
    have hO2 := hO.out
    rw [HPL.out] at hO2
    obtain ⟨A9, c9, rfl, hrd⟩ := hO2.rd
    have HRD := hide hrd
    clear hO hO2 hrd
    go_wp2_with fail
    go_ret
    exact ⟨A9, c9, rfl, HRD.out, HMS.out.b.trans (hbr.mono HMS.out.b.size)⟩
theorem dark_prog (h : MH) (m : Mod) (l : List EvM) (A : Option Addr) (c : Nat) (w : World) (d : MD w w.heap.size h m) (k1 : m.rT.length ≤ h.rc) (k2 : m.mT.length ≤ h.mc) (k3 : m.lT.length ≤ h.lc) (ha : Asc w) (hv : validM m = true)
    (hE : Rows encEv 22 w w.heap.size A l) (hl : l.length ≤ 1000) (hlc : l.length ≤ c) (hcm : c ≤ 9223372036854775807) (hold : ∀ x ∈ l, x.old.length ≤ 10) :
    Calls Tryz.prog 19 #[.agg #[.slice h.s m.sT.length h.sc, .slice h.f m.fT.length h.fc, .slice h.r m.rT.length h.rc, .slice h.m m.mT.length h.mc, .slice h.l m.lT.length h.lc, .slice h.i m.iT.length h.ic, .int .i64 m.dT, .int .i64 m.oT, .int .i64 m.vT, .int .i64 m.aT, .slice h.u m.uT.length h.uc], .slice A l.length c] w (DarkR w (darkM m l)) := by
 unfold darkM
 by_cases hd : darkI l < 0
 · rw [if_pos hd]; exact dark_no h m l A c w d k1 k2 k3 ha hv hE hl hd
 · rw [if_neg hd]
   obtain ⟨h1, h2⟩ := firstI_lt (p := fun x : EvM => decide (x.kind = 5)) (l := l) (by unfold darkI at hd; omega)
   exact dark_yes h m l _ A c w d k1 k2 k3 ha hv hE hl hlc hcm hold h1 h2
end Go.Proofs.YtaepcjklimigmaaGreatDoor
