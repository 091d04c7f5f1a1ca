/- A part of the claim: see its last text. -/
import Derived.Test.YtaepcjklimigmaaGreatDoorDK30
import Derived.Test.YtaepcjklimigmaaGreatDoorDK31
import Derived.Test.YtaepcjklimigmaaGreatDoorDK46
import Derived.Test.YtaepcjklimigmaaGreatDoorDK36
import Derived.Test.YtaepcjklimigmaaGreatDoorDK45
import Derived.Test.YtaepcjklimigmaaGreatDoorDK35

set_option maxRecDepth 100000
set_option maxHeartbeats 16000000
namespace Go.Proofs.YtaepcjklimigmaaGreatDoor
open Go Go.RowKit Go.Proofs
theorem evE_one : (#[.int .i64 5, .int .i64 0, .int .i64 0, .int .i64 0, .int .i64 0, .int .i64 0, .string ⟨#[]⟩, .int .i64 0, .int .i64 0, .int .i64 0, .bool false, .int .i64 0, .slice none 0 0, .slice none 0 0, .slice none 0 0, .int .i64 0, .int .i64 0, .int .i64 0, .int .i64 0, .int .i64 0, .bool false, .int .i64 0] : Array Value).all (·.oneCell') = true := by simp [Value.oneCell']
def jO (A : Option Addr) (c : Nat) : EvJ := ⟨0, 0, 0, ⟨#[]⟩, 0, 0, 0, false, 0, A, c, none, 0, 0, none, 0, 0, 0, 0, 0⟩
def evUs (i : Nat) (kk : Int) : List Value := [.int .i64 3, .int .i64 kk, .int .i64 0, .int .i64 0, .int .i64 0, .int .i64 0, .string ⟨#[]⟩, .int .i64 0, .int .i64 0, .int .i64 0, .bool false, .int .i64 0, .slice none 0 0, .slice none 0 0, .slice none 0 0, .int .i64 ((i : Int) + 1), .int .i64 0, .int .i64 0, .int .i64 0, .int .i64 0, .bool true, .int .i64 0]
def evGs (i : Nat) (os : List Int) (Ao : Option Addr) (co : Nat) : List Value := [.int .i64 2, .int .i64 0, .int .i64 0, .int .i64 0, .int .i64 ((i : Int) + 1), .int .i64 0, .string ⟨#[]⟩, .int .i64 0, .int .i64 0, .int .i64 0, .bool false, .int .i64 0, .slice Ao os.length co, .slice none 0 0, .slice none 0 0, .int .i64 0, .int .i64 0, .int .i64 0, .int .i64 0, .int .i64 0, .bool false, .int .i64 0]
theorem evT_U (w : World) (i : Nat) (kk : Int) (B : Nat) : EvT w B (evU i kk) (evUs i kk) := ⟨jO none 0, rfl, Nat.le_refl _, by decide, .inl rfl⟩
theorem evT_G (w : World) (i : Nat) (os : List Int) (Ao : Option Addr) (co : Nat) (h1 : os.length ≤ co) (h2 : co ≤ 9223372036854775807) {B : Nat} (h : IT w B Ao os) : EvT w B (evG i os) (evGs i os Ao co) := ⟨jO Ao co, rfl, h1, h2, h⟩
theorem evT_E (w : World) (B : Nat) : EvT w B evE (#[.int .i64 5, .int .i64 0, .int .i64 0, .int .i64 0, .int .i64 0, .int .i64 0, .string ⟨#[]⟩, .int .i64 0, .int .i64 0, .int .i64 0, .bool false, .int .i64 0, .slice none 0 0, .slice none 0 0, .slice none 0 0, .int .i64 0, .int .i64 0, .int .i64 0, .int .i64 0, .int .i64 0, .bool false, .int .i64 0] : Array Value).toList := ⟨jO none 0, rfl, Nat.le_refl _, by decide, .inl rfl⟩
theorem OwnI.ne {B g : Nat} {w : World} {v : Value} {l : List Int} {T : TypeId} {cs : Array Value} (h : OwnI B w v l) (hb : Blk w g T cs) (hne : T ≠ 3) : v.ownBlock ≠ some g := by
 rintro e
 rcases h.2 with ⟨rfl, _⟩ | ⟨g2, cap, cur, rfl, _, hh, _⟩
 · cases e
 · obtain rfl : g2 = g := Option.some.inj e
   rw [Blk] at hb
   have := hb.symm.trans hh
   simp at this
   exact hne this.2
theorem MS.grown {w : World} {M : Array Value} {W W' : World} {row : Option Nat} (s : MS w M W) (hg : W.grownBy W' row) (hr : ∀ g, row = some g → w.heap.size < g) : MS w M W' :=
 ⟨s.m.grown hg (fun e => by have := hr _ e.symm; omega), s.b.grown hg s.b.size (fun g e => Nat.le_of_lt (hr g e))⟩
structure DkS (w : World) (h : MH) (m : Mod) (be B : Nat) (v : Value) (l : List EvM) (W : World) : Prop where
 s : MS w #[.slice h.s m.sT.length h.sc, .slice h.f m.fT.length h.fc, .slice h.r m.rT.length h.rc, .slice h.m m.mT.length h.mc, .slice h.l m.lT.length h.lc, .slice h.i m.iT.length h.ic, .int .i64 m.dT, .int .i64 m.oT, .int .i64 m.vT, .int .i64 m.aT, .slice h.u m.uT.length h.uc] W
 e : Blk W be 54 #[.int .i64 5, .int .i64 0, .int .i64 0, .int .i64 0, .int .i64 0, .int .i64 0, .string ⟨#[]⟩, .int .i64 0, .int .i64 0, .int .i64 0, .bool false, .int .i64 0, .slice none 0 0, .slice none 0 0, .slice none 0 0, .int .i64 0, .int .i64 0, .int .i64 0, .int .i64 0, .int .i64 0, .bool false, .int .i64 0]
 o : OwnE (be + 1) B W v l
 lt : w.heap.size < be
 ge : be < B
theorem DkS.grow {w : World} {h : MH} {m : Mod} {be B : Nat} {v : Value} {l : List EvM} {W W2 : World} (s : DkS w h m be B v l W) (hb : Below W.heap.size W W2) : DkS w h m be B v l W2 := ⟨s.s.grow hb, s.e.below hb s.e.lt, s.o.below hb, s.lt, s.ge⟩
theorem DkS.drew {w : World} {h : MH} {m : Mod} {be B : Nat} {v : Value} {l : List EvM} {W : World} (s : DkS w h m be B v l W) : DkS w h m be B v l W.drew := s.grow (Below.refl _ W).drew
theorem DkS.more {w : World} {h : MH} {m : Mod} {be B B' : Nat} {v : Value} {l : List EvM} {W : World} (s : DkS w h m be B v l W) (hB : B ≤ B') : DkS w h m be B' v l W := ⟨s.s, s.e, s.o.more hB, s.lt, Nat.lt_of_lt_of_le s.ge hB⟩
theorem DkS.evs {w : World} {h : MH} {m : Mod} {be B : Nat} {v v' : Value} {l l' : List EvM} {W W2 : World} (s : DkS w h m be B v l W) (hg : W.grownBy W2 v.ownBlock) (ho : OwnE (be + 1) B W2 v' l') : DkS w h m be B v' l' W2 :=
 ⟨s.s.grown hg (fun g e => by have := (s.o.lt g e).1; have := s.lt; omega), s.e.grown hg (fun e => by have := (s.o.lt _ e.symm).1; omega), ho, s.lt, s.ge⟩
structure DkU (w : World) (h : MH) (m : Mod) (be B bx : Nat) (x : ItemM) (A : Option Addr) (c : Nat) (v vo : Value) (l : List EvM) (o : List Int) (W : World) : Prop where
 s : DkS w h m be B v l W
 x : Blk W bx 66 #[.string x.name, .int .i64 x.kind, .int .i64 x.count, .int .i64 x.load, .int .i64 x.size, .int .i64 x.share, .slice A x.on.length c]
 i : OwnI B W vo o
theorem DkU.grow {w : World} {h : MH} {m : Mod} {be B bx : Nat} {x : ItemM} {A : Option Addr} {c : Nat} {v vo : Value} {l : List EvM} {o : List Int} {W W2 : World} (s : DkU w h m be B bx x A c v vo l o W) (hb : Below W.heap.size W W2) : DkU w h m be B bx x A c v vo l o W2 :=
 ⟨s.s.grow hb, s.x.below hb s.x.lt, s.i.below hb⟩
theorem DkU.evs {w : World} {h : MH} {m : Mod} {be B bx : Nat} {x : ItemM} {A : Option Addr} {c : Nat} {v v' vo : Value} {l l' : List EvM} {o : List Int} {W W2 : World} (s : DkU w h m be B bx x A c v vo l o W) (hg : W.grownBy W2 v.ownBlock) (ho : OwnE (be + 1) B W2 v' l') : DkU w h m be B bx x A c v' vo l' o W2 := by
 obtain ⟨vss, hO, _⟩ := s.s.o
 exact ⟨s.s.evs hg ho, s.x.grown hg (fun e => s.s.o.ne s.x (by decide) e.symm), s.i.keep (KT.grown hO (by decide) hg)⟩
theorem DkU.ints {w : World} {h : MH} {m : Mod} {be B bx : Nat} {x : ItemM} {A : Option Addr} {c : Nat} {v vo vo' : Value} {l : List EvM} {o o' : List Int} {W W2 : World} (s : DkU w h m be B bx x A c v vo l o W) (hg : W.grownBy W2 vo.ownBlock) (ho : OwnI B W2 vo' o') : DkU w h m be B bx x A c v vo' l o' W2 :=
 ⟨⟨s.s.s.grown hg (fun g e => by have := (s.i.lt g e).1; have := s.s.lt; have := s.s.ge; omega), s.s.e.grown hg (fun e => by have := (s.i.lt _ e.symm).1; have := s.s.ge; omega), s.s.o.keep (KT.grown s.i (by decide) hg) (KI.grown s.i hg), s.s.lt, s.s.ge⟩, s.x.grown hg (fun e => s.i.ne s.x (by decide) e.symm), ho⟩
theorem evE_range {w : World} {be : Nat} (h : Blk w be 54 #[.int .i64 5, .int .i64 0, .int .i64 0, .int .i64 0, .int .i64 0, .int .i64 0, .string ⟨#[]⟩, .int .i64 0, .int .i64 0, .int .i64 0, .bool false, .int .i64 0, .slice none 0 0, .slice none 0 0, .slice none 0 0, .int .i64 0, .int .i64 0, .int .i64 0, .int .i64 0, .int .i64 0, .bool false, .int .i64 0]) : w.rangeAt be 0 [.int .i64 5, .int .i64 0, .int .i64 0, .int .i64 0, .int .i64 0, .int .i64 0, .string ⟨#[]⟩, .int .i64 0, .int .i64 0, .int .i64 0, .bool false, .int .i64 0, .slice none 0 0, .slice none 0 0, .slice none 0 0, .int .i64 0, .int .i64 0, .int .i64 0, .int .i64 0, .int .i64 0, .bool false, .int .i64 0] := fun j v hv => by rw [Nat.zero_add, h.cell]; simpa using hv
def DarkN (w : World) (n : Nat) (e : Ending) (w' : World) : Prop := ∃ A c, e = .returned (.slice A n c) ∧ Below w.heap.size w w'
theorem dark_n (h : MH) (m : Mod) (l : List EvM) (A : Option Addr) (c : Nat) (w : World) (d : MD w w.heap.size h m) (k1 : m.rT.length ≤ h.rc) (k2 : m.mT.length ≤ h.mc) (k3 : m.lT.length ≤ h.lc) (ha : Asc w) (hv : validM m = true)
    (hE : Rows encEv 22 w w.heap.size A l) (hl : l.length ≤ 1000) (hlc : l.length ≤ c) (hcm : c ≤ 9223372036854775807) (hold : ∀ x ∈ l, x.old.length ≤ 10) {n k : Nat} (hn : (darkM m l).length = n) (hk : l.length = k) :
    Calls Tryz.prog 19 #[.agg #[.slice h.s m.sT.length h.sc, .slice h.f m.fT.length h.fc, .slice h.r m.rT.length h.rc, .slice h.m m.mT.length h.mc, .slice h.l m.lT.length h.lc, .slice h.i m.iT.length h.ic, .int .i64 m.dT, .int .i64 m.oT, .int .i64 m.vT, .int .i64 m.aT, .slice h.u m.uT.length h.uc], .slice A k c] w (DarkN w n) := by
 subst hn hk
 exact (dark_prog h m l A c w d k1 k2 k3 ha hv hE hl hlc hcm hold).mono fun e w' ⟨A, c, he, _, hb⟩ => ⟨A, c, he, hb⟩
def DkO (w : World) (h : MH) (m : Mod) (be : Nat) (n v i : Value) (W : World) : Prop := ∃ k : Nat, k ≤ m.iT.length ∧ i = .int .i64 k ∧ n = .int .i64 (cntD m k) ∧ Hid (DkS w h m be W.heap.size v (evsD m k) W)
def cntU (m : Mod) (l : List Int) (k : Nat) : Nat := ((l.take k).filter (inD m)).length
theorem cntU_succ (m : Mod) (l : List Int) {k : Nat} (hk : k < l.length) : cntU m l (k + 1) = cntU m l k + (if inD m l[k] = true then 1 else 0) := by
 unfold cntU
 rw [List.take_succ_eq_append_getElem hk, List.filter_append, List.length_append]
 cases e : inD m l[k] <;> simp [e]
theorem cntU_le (m : Mod) (l : List Int) (k : Nat) : cntU m l k ≤ l.length := by
 unfold cntU
 have h1 := List.length_filter_le (inD m) (l.take k)
 rw [List.length_take] at h1
 omega
theorem cntD_le {m : Mod} (hv : validM m = true) : ∀ n, cntD m n ≤ 16 * n
 | 0 => by simp [cntD]
 | n + 1 => by
   by_cases h : n < m.iT.length
   · rw [cntD_succ h]
     have := cntD_le hv n
     have := List.length_filter_le (inD m) m.iT[n].on
     have := valid_on hv (List.getElem_mem h)
     omega
   · have e : cntD m (n + 1) = cntD m n := by
       unfold cntD
       rw [List.range_succ, List.flatMap_append, List.length_append]
       simp [h]
     rw [e]
     have := cntD_le hv n
     omega
def DkN (w : World) (h : MH) (m : Mod) (be B bx : Nat) (x : ItemM) (A : Option Addr) (c i0 N : Nat) (n v o i : Value) (W : World) : Prop := ∃ k : Nat, k ≤ x.on.length ∧ i = .int .i64 k ∧ n = .int .i64 ((N + cntU m x.on k : Nat) : Int) ∧ Hid (DkU w h m be B bx x A c v o (evsD m i0 ++ unitsD m i0 x (x.on.take k)) (oldsD m (x.on.take k)) W)
theorem DkU.drew {w : World} {h : MH} {m : Mod} {be B bx : Nat} {x : ItemM} {A : Option Addr} {c : Nat} {v vo : Value} {l : List EvM} {o : List Int} {W : World} (s : DkU w h m be B bx x A c v vo l o W) : DkU w h m be B bx x A c v vo l o W.drew := s.grow (Below.refl _ W).drew
theorem DkU.cm {w : World} {h : MH} {m : Mod} {be B bx : Nat} {x : ItemM} {A : Option Addr} {c : Nat} {v vo : Value} {l : List EvM} {o : List Int} {W : World} (s : DkU w h m be B bx x A c v vo l o W) : W.cell? ⟨w.heap.size, 0, none⟩ = some (.slice h.s m.sT.length h.sc) ∧ W.cell? ⟨w.heap.size, 1, none⟩ = some (.slice h.f m.fT.length h.fc) ∧ W.cell? ⟨w.heap.size, 2, none⟩ = some (.slice h.r m.rT.length h.rc) ∧ W.cell? ⟨w.heap.size, 3, none⟩ = some (.slice h.m m.mT.length h.mc) ∧ W.cell? ⟨w.heap.size, 4, none⟩ = some (.slice h.l m.lT.length h.lc) ∧ W.cell? ⟨w.heap.size, 5, none⟩ = some (.slice h.i m.iT.length h.ic) ∧ W.cell? ⟨w.heap.size, 6, none⟩ = some (.int .i64 m.dT) ∧ W.cell? ⟨w.heap.size, 7, none⟩ = some (.int .i64 m.oT) ∧ W.cell? ⟨w.heap.size, 8, none⟩ = some (.int .i64 m.vT) ∧ W.cell? ⟨w.heap.size, 9, none⟩ = some (.int .i64 m.aT) ∧ W.cell? ⟨w.heap.size, 10, none⟩ = some (.slice h.u m.uT.length h.uc) := MB.cells s.s.s.m
theorem censusDark_walk (h : MH) (m : Mod) (w : World) (d : MD w w.heap.size h m) (k1 : m.rT.length ≤ h.rc) (k2 : m.mT.length ≤ h.mc) (k3 : m.lT.length ≤ h.lc) (ha : Asc w) (hpw : Pow w) :
    Calls Tryz.prog 7 #[.agg #[.slice h.s m.sT.length h.sc, .slice h.f m.fT.length h.fc, .slice h.r m.rT.length h.rc, .slice h.m m.mT.length h.mc, .slice h.l m.lT.length h.lc, .slice h.i m.iT.length h.ic, .int .i64 m.dT, .int .i64 m.oT, .int .i64 m.vT, .int .i64 m.aT, .slice h.u m.uT.length h.uc]] w (fun e w' => e = .returned (.bool true) ∧ Below w.heap.size w w') := by
 have hb := (Below.refl w.heap.size w).alloc (Nat.le_refl _) (.cells #[.slice h.s m.sT.length h.sc, .slice h.f m.fT.length h.fc, .slice h.r m.rT.length h.rc, .slice h.m m.mT.length h.mc, .slice h.l m.lT.length h.lc, .slice h.i m.iT.length h.ic, .int .i64 m.dT, .int .i64 m.oT, .int .i64 m.vT, .int .i64 m.aT, .slice h.u m.uT.length h.uc] 29)
 have HB := hide hb
 have HM0 := hide (Blk.new w 29 #[.slice h.s m.sT.length h.sc, .slice h.f m.fT.length h.fc, .slice h.r m.rT.length h.rc, .slice h.m m.mT.length h.mc, .slice h.l m.lT.length h.lc, .slice h.i m.iT.length h.ic, .int .i64 m.dT, .int .i64 m.oT, .int .i64 m.vT, .int .i64 m.aT, .slice h.u m.uT.length h.uc])
 have HFW := hide (few58_ref h m [] none 0 0 _ (d.grow hb) Rows.nil_ (by simp))
 rw [List.length_nil] at HFW
 have HAW := hide (fun W (hW : Below w.heap.size w W) => awake58 W (ha.below (Nat.le_refl _) hW) (hpw.below (Nat.le_refl _) hW))
 have HD := hide (fun W (hW : Below w.heap.size w W) => d.grow hW)
 have HA := hide ha
 have HK := hide (And.intro k1 (And.intro k2 k3))
 have hil := d.il
 have hml := d.ml
 clear hb d k1 k2 k3 ha hpw
 go_enter Tryz.func7, Tryz.ntmps7
 go_wp2_with (first
  | (go_at_call 10; refine HFW.out.mono ?_; rintro e w1 ⟨b, rfl, hb1, hq⟩
     have hm1 := HM0.out.below hb1 (by simp)
     obtain ⟨a0, a1, a2, a3, a4, a5, a6, a7, a8, a9, a10⟩ := MB.cells hm1
     have lt1 := hm1.lt
     have HB1 := hide (HB.out.trans (hb1.mono (by simp)))
     have HM1 := hide hm1
     have HQ := hide hq
     clear hm1 hb1 hq
     cases b)
  | (go_at_call 11; refine (HAW.out _ HB1.out).mono ?_; rintro e w2 ⟨rfl, hb2⟩
     have HB2 := hide (HB1.out.trans (hb2.mono HB1.out.size))
     clear hb2)
  | (refine wpList_store_row (o := ⟨none, .store 54 _ _, _, _, _, _⟩) rfl 54 _ _ rfl w1.heap.size #[.int .i64 5, .int .i64 0, .int .i64 0, .int .i64 0, .int .i64 0, .int .i64 0, .string ⟨#[]⟩, .int .i64 0, .int .i64 0, .int .i64 0, .bool false, .int .i64 0, .slice none 0 0, .slice none 0 0, .slice none 0 0, .int .i64 0, .int .i64 0, .int .i64 0, .int .i64 0, .int .i64 0, .bool false, .int .i64 0] rfl rfl 54 _ (heap_alloc_last w1 _) sizeEv rfl evE_one ?_; rw [World.setRow_alloc_new]))
 · go_ret
   exact ⟨rfl, HB2.out⟩
 · obtain ⟨hv, -, -⟩ := HQ.out trivial
   have HV := hide hv
   have s1 := (valid_sizes hv).1
   clear HQ
   obtain ⟨W0, hW0⟩ : ∃ W0, W0 = w1.alloc (.cells #[.int .i64 5, .int .i64 0, .int .i64 0, .int .i64 0, .int .i64 0, .int .i64 0, .string ⟨#[]⟩, .int .i64 0, .int .i64 0, .int .i64 0, .bool false, .int .i64 0, .slice none 0 0, .slice none 0 0, .slice none 0 0, .int .i64 0, .int .i64 0, .int .i64 0, .int .i64 0, .int .i64 0, .bool false, .int .i64 0] 54) := ⟨_, rfl⟩
   have HS0 := hide (show DkS w h m w1.heap.size W0.heap.size (.slice none 0 0) (evsD m 0) W0 from by
    have hba : Below w1.heap.size w1 W0 := by rw [hW0]; exact (Below.refl _ _).alloc (Nat.le_refl _) _
    refine ⟨⟨HM1.out.below hba HM1.out.lt, HB1.out.trans (hba.mono HB1.out.size)⟩, by rw [hW0]; exact Blk.new _ _ _, OwnE.nil_ _ _ _, by have := HB1.out.size; have := HM1.out.lt; omega, by rw [hW0]; simp⟩)
   rw [← hW0]
   obtain ⟨be, hbe⟩ : ∃ be, be = w1.heap.size := ⟨_, rfl⟩
   rw [← hbe] at HS0 ⊢
   clear hbe hW0 a0 a1 a2 a3 a4 a5 a6 a7 a8 a9 a10 lt1 HB1 HM1
   go_loopw [4, 5, 19] (fun n v i W => DkO w h m be n v i W) (fun _ _ i _ => m.iT.length - (intOf i).toNat)
   case atStart => exact ⟨0, Nat.zero_le _, rfl, rfl, HS0⟩
   case round =>
    clear HS0
    obtain ⟨k, hk, rfl, rfl, hs⟩ := hrel
    by_cases hlt : k < m.iT.length
    · obtain ⟨b, off, A, c, hA, hb, x0, x1, x2, x3, x4, x5, x6, hz, hlc, hcm, hI⟩ := (HD.out w (Below.refl _ _)).dI.item hlt
      obtain ⟨x, hx⟩ : ∃ x, x = m.iT[k] := ⟨_, rfl⟩
      rw [← hx] at x0 x1 x2 x3 x4 x5 x6 hI hlc
      have hxon : x.on.length ≤ 16 := by rw [hx]; exact valid_on HV.out (List.getElem_mem hlt)
      have hbw := hs.out.s.b
      have y0 := (hbw.cell (p := ⟨b, off + k * 7, none⟩) hb).trans x0
      have y1 := (hbw.cell (p := ⟨b, off + k * 7 + 1, none⟩) hb).trans x1
      have y2 := (hbw.cell (p := ⟨b, off + k * 7 + 2, none⟩) hb).trans x2
      have y3 := (hbw.cell (p := ⟨b, off + k * 7 + 3, none⟩) hb).trans x3
      have y4 := (hbw.cell (p := ⟨b, off + k * 7 + 4, none⟩) hb).trans x4
      have y5 := (hbw.cell (p := ⟨b, off + k * 7 + 5, none⟩) hb).trans x5
      have y6 := (hbw.cell (p := ⟨b, off + k * 7 + 6, none⟩) hb).trans x6
      have hbl : b < wr.heap.size := Nat.lt_of_lt_of_le hb hbw.size
      have HI := hide hI
      have HX := hide hx
      have HLT := hide hlt
      have hltI : (k : Int) < (m.iT.length : Int) := by omega
      have HCD := hide (cntD_le HV.out k)
      have HCS := hide (cntD_succ hlt)
      obtain ⟨W1, hW1⟩ : ∃ W1, W1 = (wr.alloc (.cells #[.string x.name, .int .i64 x.kind, .int .i64 x.count, .int .i64 x.load, .int .i64 x.size, .int .i64 x.share, .slice A x.on.length c] 66)).alloc (.cells #[] 3) := ⟨_, rfl⟩
      have HU := hide (show DkU w h m be (wr.heap.size + 1) wr.heap.size x A c u5 (.slice (some ⟨wr.heap.size + 1, 0, none⟩) 0 0) (evsD m k ++ unitsD m k x (x.on.take 0)) (oldsD m (x.on.take 0)) W1 from by
       have hba : Below wr.heap.size wr W1 := by rw [hW1]; exact ((Below.refl _ _).alloc (Nat.le_refl _) _).alloc (by simp) _
       have e1 : unitsD m k x (x.on.take 0) = [] := by unfold unitsD; split <;> simp
       have e2 : oldsD m (x.on.take 0) = [] := rfl
       rw [e1, e2, List.append_nil]
       refine ⟨(hs.out.grow hba).more (by omega), by rw [hW1]; exact (Blk.new _ _ _).alloc _, ?_⟩
       have := OwnI.new (B := wr.heap.size + 1) (wr.alloc (.cells #[.string x.name, .int .i64 x.kind, .int .i64 x.count, .int .i64 x.load, .int .i64 x.size, .int .i64 x.share, .slice A x.on.length c] 66)) [] (by simp) (by simp)
       rw [hW1]
       simpa using this)
      clear hs hI hx x0 x1 x2 x3 x4 x5 x6 hz
      rw [hA]
      go_wp2_with fail
      rw [← hW1]
      obtain ⟨N, hN⟩ : ∃ N, N = cntD m k := ⟨_, rfl⟩
      have HN := hide hN
      have hNb : N ≤ 16 * k := by rw [hN]; exact HCD.out
      rw [← hN]
      obtain ⟨bx, hbx⟩ : ∃ bx, bx = wr.heap.size := ⟨_, rfl⟩
      rw [← hbx] at HU ⊢
      have HAI := hide hA
      clear hbx hA hW1 y0 y1 y2 y3 y4 y5 y6 hN hbl hbw
      go_loopw [4, 5, 8, 28] (fun n v o i W => DkN w h m be (bx + 1) bx x A c k N n v o i W) (fun _ _ _ i _ => x.on.length - (intOf i).toNat)
      case atStart => exact ⟨0, Nat.zero_le _, rfl, by simp [cntU], HU⟩
      case round =>
       clear HU
       obtain ⟨q, hq, rfl, rfl, hu⟩ := hrel
       have hcu := cntU_le m x.on q
       by_cases hlq : q < x.on.length
       · obtain ⟨b2, o2, hA2, hb2, z0⟩ := int_at HI.out hlq
         obtain ⟨kk, hkk⟩ : ∃ kk, kk = x.on[q] := ⟨_, rfl⟩
         rw [← hkk] at z0
         have hbw := hu.out.s.s.b
         have z1 := (hbw.cell (p := ⟨b2, o2 + q, none⟩) hb2).trans z0
         have zl := Nat.lt_of_lt_of_le hb2 hbw.size
         have HLQ := hide hlq
         have hlqI : (q : Int) < (x.on.length : Int) := by omega
         have HUS := hide (unitsD_succ m k x hlq)
         have HOS := hide (oldsD_succ m x.on hlq)
         have HCU := hide (cntU_succ m x.on hlq)
         rw [← hkk] at HUS HOS HCU
         obtain ⟨dv, hdv⟩ : ∃ dv, dv = domI m 4 kk := ⟨_, rfl⟩
         have HC := hide (domain_ref h m 4 kk _ (HD.out _ hu.out.drew.s.s.b))
         rw [← hdv] at HC
         have HIN := hide (show inD m kk = decide (dv = m.dT) by rw [inD, hdv])
         have hB : ∀ b : Bool, b = false ∨ b = true := fun b => by cases b <;> simp
         subst hA2
         have HOL := hide (show (oldsD m (x.on.take q)).length ≤ 16 by
          have := List.length_filter_le (fun k => !inD m k) (x.on.take q)
          rw [List.length_take] at this
          unfold oldsD; omega)
         have HVL := hide (show (evsD m k ++ unitsD m k x (x.on.take q)).length ≤ 1000 by
          have h1 := evsD_len HV.out k
          have h2 : (unitsD m k x (x.on.take q)).length ≤ x.on.length := by
           unfold unitsD
           split
           · simp
           · have := List.length_filter_le (inD m) (x.on.take q)
             rw [List.length_take] at this
             rw [List.length_map]; omega
          rw [List.length_append]; omega)
         clear z0 hbw hkk hdv hb2
         rcases hB (dv == m.dT) with hq1 | hq1
         · have e1 : inD m kk = false := by rw [HIN.out]; simpa using hq1
           have HE1 := hide (show unitsD m k x (x.on.take (q + 1)) = unitsD m k x (x.on.take q) by rw [HUS.out, e1]; simp)
           have HE2 := hide (show oldsD m (x.on.take (q + 1)) = oldsD m (x.on.take q) ++ [kk] by rw [HOS.out, e1]; simp)
           have HE3 := hide (show cntU m x.on (q + 1) = cntU m x.on q by rw [HCU.out, e1]; simp)
           clear e1
           go_wp2_with fail
           go_region_held3 (fun W => (W.cell? ⟨w.heap.size, 0, none⟩ = some (.slice h.s m.sT.length h.sc) ∧ W.cell? ⟨w.heap.size, 1, none⟩ = some (.slice h.f m.fT.length h.fc) ∧ W.cell? ⟨w.heap.size, 2, none⟩ = some (.slice h.r m.rT.length h.rc) ∧ W.cell? ⟨w.heap.size, 3, none⟩ = some (.slice h.m m.mT.length h.mc) ∧ W.cell? ⟨w.heap.size, 4, none⟩ = some (.slice h.l m.lT.length h.lc) ∧ W.cell? ⟨w.heap.size, 5, none⟩ = some (.slice h.i m.iT.length h.ic) ∧ W.cell? ⟨w.heap.size, 6, none⟩ = some (.int .i64 m.dT) ∧ W.cell? ⟨w.heap.size, 7, none⟩ = some (.int .i64 m.oT) ∧ W.cell? ⟨w.heap.size, 8, none⟩ = some (.int .i64 m.vT) ∧ W.cell? ⟨w.heap.size, 9, none⟩ = some (.int .i64 m.aT) ∧ W.cell? ⟨w.heap.size, 10, none⟩ = some (.slice h.u m.uT.length h.uc)) ∧ DkU w h m be (bx + 1) bx x (some ⟨b2, o2, none⟩) c u5 u8 (evsD m k ++ unitsD m k x (x.on.take q)) (oldsD m (x.on.take q)) W)
            ((with_reducible (first | (go_keep; done) | exact ⟨DkU.cm hu.out.drew, hu.out.drew⟩ | exact ⟨DkU.cm c7, c7⟩ | (have hH := (by assumption : _ ∧ DkU _ _ _ _ _ _ _ _ _ _ _ _ _ _); exact ⟨DkU.cm (DkU.drew hH.2), DkU.drew hH.2⟩))))
            (((with_reducible refine HC.out.mono ?_); rintro e w5 ⟨rfl, hb5⟩; have c7 := DkU.grow hu.out.drew hb5))
           have HU5 := hide (c7.grow ((Below.refl w5.heap.size w5).alloc (Nat.le_refl _) (.cells #[.int .i64 kk] 3)))
           have HR := hide (Ints.newRow2 w5 3 [kk] rfl)
           have HZ := hide (show bx + 1 ≤ (w5.alloc (.cells #[.int .i64 kk] 3)).heap.size by have := c7.x.lt; simp; omega)
           have hol := HOL.out
           go_wp2_with (at_builtin; refine append_ints rfl _ _ rfl (bx + 1) u8 _ rfl HU5.out.i (w5.heap.size + 1) (some ⟨w5.heap.size, 0, none⟩) _ [kk] rfl HR.out (by simp; omega) HZ.out ?_; intro v3 w6 ho3 hg3 _; have ho3 := hide ho3; have hg3 := hide hg3)
           go_roundw
           case rel => exact ⟨q + 1, HLQ.out, by go_num, by rw [HE3.out]; simp, hide (by rw [HE1.out, HE2.out]; exact HU5.out.ints hg3.out ho3.out)⟩
           case measure => have := HLQ.out; simp [intOf]; omega
         · have e1 : inD m kk = true := by rw [HIN.out]; simpa using hq1
           have HE2 := hide (show oldsD m (x.on.take (q + 1)) = oldsD m (x.on.take q) by rw [HOS.out, e1]; simp)
           have HE3 := hide (show cntU m x.on (q + 1) = cntU m x.on q + 1 by rw [HCU.out, e1]; simp)
           have hwc : IntKind.i64.wrap (((N + cntU m x.on q : Nat) : Int) + 1) = ((N + cntU m x.on q : Nat) : Int) + 1 := by rw [IntKind.wrap_i64]; omega
           rcases hB (x.kind == 0) with hq2 | hq2
           · have HE1 := hide (show unitsD m k x (x.on.take (q + 1)) = unitsD m k x (x.on.take q) ++ [evU k kk] by rw [HUS.out, e1, if_pos ⟨by simpa using hq2, rfl⟩])
             clear e1
             go_wp2_with fail
             go_region_held3 (fun W => (W.cell? ⟨w.heap.size, 0, none⟩ = some (.slice h.s m.sT.length h.sc) ∧ W.cell? ⟨w.heap.size, 1, none⟩ = some (.slice h.f m.fT.length h.fc) ∧ W.cell? ⟨w.heap.size, 2, none⟩ = some (.slice h.r m.rT.length h.rc) ∧ W.cell? ⟨w.heap.size, 3, none⟩ = some (.slice h.m m.mT.length h.mc) ∧ W.cell? ⟨w.heap.size, 4, none⟩ = some (.slice h.l m.lT.length h.lc) ∧ W.cell? ⟨w.heap.size, 5, none⟩ = some (.slice h.i m.iT.length h.ic) ∧ W.cell? ⟨w.heap.size, 6, none⟩ = some (.int .i64 m.dT) ∧ W.cell? ⟨w.heap.size, 7, none⟩ = some (.int .i64 m.oT) ∧ W.cell? ⟨w.heap.size, 8, none⟩ = some (.int .i64 m.vT) ∧ W.cell? ⟨w.heap.size, 9, none⟩ = some (.int .i64 m.aT) ∧ W.cell? ⟨w.heap.size, 10, none⟩ = some (.slice h.u m.uT.length h.uc)) ∧ DkU w h m be (bx + 1) bx x (some ⟨b2, o2, none⟩) c u5 u8 (evsD m k ++ unitsD m k x (x.on.take q)) (oldsD m (x.on.take q)) W)
              ((with_reducible (first | (go_keep; done) | exact ⟨DkU.cm hu.out.drew, hu.out.drew⟩ | exact ⟨DkU.cm c7, c7⟩ | (have hH := (by assumption : _ ∧ DkU _ _ _ _ _ _ _ _ _ _ _ _ _ _); exact ⟨DkU.cm (DkU.drew hH.2), DkU.drew hH.2⟩))))
              (((with_reducible refine HC.out.mono ?_); rintro e w5 ⟨rfl, hb5⟩; have c7 := DkU.grow hu.out.drew hb5))
             have z5 := c7.x.cell 1
             have z6 := c7.x.lt
             simp at z5
             have HU5 := hide (c7.grow ((Below.refl w5.heap.size w5).alloc (Nat.le_refl _) (.cells (evUs k kk).toArray 54)))
             have HR := hide (newEv w5 (evUs k kk) rfl)
             have HZ := hide (show be + 1 ≤ (w5.alloc (.cells (evUs k kk).toArray 54)).heap.size by have := c7.x.lt; have := c7.s.ge; simp; omega)
             have hvl := HVL.out
             go_wp2_with (at_builtin; refine append_ev rfl _ _ rfl (be + 1) u5 _ rfl (bx + 1) HU5.out.s.o (w5.heap.size + 1) (some ⟨w5.heap.size, 0, none⟩) _ (evU k kk) (evUs k kk) rfl HR.out (evT_U _ k kk _) (by omega) HZ.out ?_; intro v3 w6 ho3 hg3 _; have ho3 := hide ho3; have hg3 := hide hg3)
             go_roundw
             case rel => exact ⟨q + 1, HLQ.out, by go_num, by rw [HE3.out]; rfl, hide (by rw [HE1.out, HE2.out, ← List.append_assoc]; exact HU5.out.evs hg3.out ho3.out)⟩
             case measure => have := HLQ.out; simp [intOf]; omega
           · have HE1 := hide (show unitsD m k x (x.on.take (q + 1)) = unitsD m k x (x.on.take q) by rw [HUS.out, if_neg (fun hh => hh.1 (by simpa using hq2))]; simp)
             clear e1
             go_wp2_with fail
             go_region_held3 (fun W => (W.cell? ⟨w.heap.size, 0, none⟩ = some (.slice h.s m.sT.length h.sc) ∧ W.cell? ⟨w.heap.size, 1, none⟩ = some (.slice h.f m.fT.length h.fc) ∧ W.cell? ⟨w.heap.size, 2, none⟩ = some (.slice h.r m.rT.length h.rc) ∧ W.cell? ⟨w.heap.size, 3, none⟩ = some (.slice h.m m.mT.length h.mc) ∧ W.cell? ⟨w.heap.size, 4, none⟩ = some (.slice h.l m.lT.length h.lc) ∧ W.cell? ⟨w.heap.size, 5, none⟩ = some (.slice h.i m.iT.length h.ic) ∧ W.cell? ⟨w.heap.size, 6, none⟩ = some (.int .i64 m.dT) ∧ W.cell? ⟨w.heap.size, 7, none⟩ = some (.int .i64 m.oT) ∧ W.cell? ⟨w.heap.size, 8, none⟩ = some (.int .i64 m.vT) ∧ W.cell? ⟨w.heap.size, 9, none⟩ = some (.int .i64 m.aT) ∧ W.cell? ⟨w.heap.size, 10, none⟩ = some (.slice h.u m.uT.length h.uc)) ∧ DkU w h m be (bx + 1) bx x (some ⟨b2, o2, none⟩) c u5 u8 (evsD m k ++ unitsD m k x (x.on.take q)) (oldsD m (x.on.take q)) W)
              ((with_reducible (first | (go_keep; done) | exact ⟨DkU.cm hu.out.drew, hu.out.drew⟩ | exact ⟨DkU.cm c7, c7⟩ | (have hH := (by assumption : _ ∧ DkU _ _ _ _ _ _ _ _ _ _ _ _ _ _); exact ⟨DkU.cm (DkU.drew hH.2), DkU.drew hH.2⟩))))
              (((with_reducible refine HC.out.mono ?_); rintro e w5 ⟨rfl, hb5⟩; have c7 := DkU.grow hu.out.drew hb5))
             have z5 := c7.x.cell 1
             have z6 := c7.x.lt
             simp at z5
             go_wp2_with fail
             go_roundw
             case rel => exact ⟨q + 1, HLQ.out, by go_num, by rw [HE3.out]; rfl, hide (by rw [HE1.out, HE2.out]; exact c7)⟩
             case measure => have := HLQ.out; simp [intOf]; omega
       · obtain rfl : q = x.on.length := by omega
         rw [List.take_length] at hu
         have HCN := hide (show N + cntU m x.on x.on.length = cntD m (k + 1) by rw [HCS.out, HN.out, ← HX.out, cntU, List.take_length])
         have HEV := hide (show evsD m (k + 1) = evsD m k ++ (unitsD m k x x.on ++ lastD m k x) by rw [evsD_succ, itemD_at HLT.out, ← HX.out])
         have z5 := hu.out.x.cell 1
         have z6 := hu.out.x.lt
         simp at z5
         have hB : ∀ b : Bool, b = false ∨ b = true := fun b => by cases b <;> simp
         rcases hB (x.kind == 0) with hq2 | hq2
         · have HE1 := hide (show lastD m k x = [] by unfold lastD; rw [if_neg (by simpa using hq2)])
           have HSE := hide (hu.out.s.more (Nat.succ_le_of_lt z6))
           go_wp2_with fail
           go_roundw
           case rel => exact ⟨k + 1, HLT.out, by go_num, by rw [HCN.out], hide (by rw [HEV.out, HE1.out, List.append_nil]; exact HSE.out)⟩
           case measure => have := HLT.out; simp [intOf]; omega
         · have HE1 := hide (show lastD m k x = [evG k (oldsD m x.on)] by unfold lastD; rw [if_pos (by simpa using hq2)])
           obtain ⟨Ao, co, rfl, hco1, hco2, hIT⟩ := hu.out.i.it
           obtain ⟨os, hos⟩ : ∃ os, os = oldsD m x.on := ⟨_, rfl⟩
           rw [← hos] at hu hco1 hIT HE1 ⊢
           have hba := (Below.refl wr.heap.size wr).alloc (Nat.le_refl _) (.cells (evGs k os Ao co).toArray 54)
           have HSE := hide ((hu.out.s.more (Nat.succ_le_of_lt z6)).grow hba)
           have HTG := hide (evT_G (wr.alloc (.cells (evGs k os Ao co).toArray 54)) k os Ao co hco1 hco2 (hIT.keep (KI.of (KT.below hba))))
           have HR := hide (newEv wr (evGs k os Ao co) rfl)
           have HZ := hide (show be + 1 ≤ (wr.alloc (.cells (evGs k os Ao co).toArray 54)).heap.size by have := hu.out.s.ge; simp; omega)
           have hvl : (evsD m k ++ unitsD m k x x.on).length ≤ 1000 := by
            have h1 := evsD_len HV.out k
            have h2 : (unitsD m k x x.on).length ≤ x.on.length := by
             unfold unitsD
             split
             · simp
             · rw [List.length_map]; exact List.length_filter_le _ _
            rw [List.length_append]; omega
           have HVL := hide hvl
           clear hIT hvl hba hos
           go_wp2_with (at_builtin; refine append_ev rfl _ _ rfl (be + 1) u5 _ rfl wr.heap.size HSE.out.o (wr.heap.size + 1) (some ⟨wr.heap.size, 0, none⟩) _ (evG k os) (evGs k os Ao co) rfl HR.out HTG.out (by have := HVL.out; omega) HZ.out ?_; intro v3 w6 ho3 hg3 _; have ho3 := hide ho3; have hg3 := hide hg3)
           go_roundw
           case rel => exact ⟨k + 1, HLT.out, by go_num, by rw [← HCN.out]; simp, hide (by rw [HEV.out, HE1.out, ← List.append_assoc]; exact (HSE.out.evs hg3.out ho3.out).more (Nat.le_trans (by simp) hg3.out.size))⟩
           case measure => have := HLT.out; simp [intOf]; omega
    · obtain rfl : k = m.iT.length := by omega
      obtain ⟨L, hL⟩ : ∃ L, L = evsD m m.iT.length := ⟨_, rfl⟩
      obtain ⟨N, hN⟩ : ∃ N, N = cntD m m.iT.length := ⟨_, rfl⟩
      have HDK := hide (fun W (hW : Below w.heap.size w W) A c l n k (hE : Rows encEv 22 W W.heap.size A l) hl hlc hcm hold hn hk => dark_n h m l A c W (HD.out W hW) HK.out.1 HK.out.2.1 HK.out.2.2 (HA.out.below (Nat.le_refl _) hW) HV.out hE hl hlc hcm hold (n := n) (k := k) hn hk)
      have HLL := hide (show L.length ≤ 200 by rw [hL]; have := evsD_len HV.out m.iT.length; omega)
      have HD1 := hide (show (darkM m [evE]).length = N by rw [hN]; exact darkM_one m)
      have HD2 := hide (show (darkM m (L ++ [evE])).length = 0 by rw [hL, darkM_evs HV.out]; rfl)
      have HD3 := hide (show (darkM m L).length = 0 by rw [hL, darkM_none]; rfl)
      have HO1 := hide (show ∀ x ∈ L, x.old.length ≤ 10 from fun x hx => by rw [hL] at hx; exact evsD_old HV.out hx)
      have HO2 := hide (show ∀ x ∈ [evE], x.old.length ≤ 10 from fun x hx => by rw [List.mem_singleton.1 hx]; decide)
      rw [← hL] at hs
      rw [← hN]
      obtain ⟨A5, c5, rfl, hlc5, hcm5, -⟩ := hs.out.o.rows
      have HC5 := hide (And.intro hlc5 hcm5)
      have hll := HLL.out
      clear hL hN hlc5 hcm5
      go_wp2_with fail
      refine wp_region_held_drew (S := fun W => DkS w h m be wr.heap.size (.slice A5 L.length c5) L W) (by kernel_rfl) (hs.out.drew) (fun hHeld => ?_)
      refine wpAnyH_take (i := 0) (oi := _) (v := _) rfl (by kernel_rfl) (by kernel_rfl) (by kernel_rfl) (fun _ _ _ h => h) (yieldsIf_load_mid (by rfl) 29 _ rfl w.heap.size 0 rfl [.slice h.s m.sT.length h.sc, .slice h.f m.fT.length h.fc, .slice h.r m.rT.length h.rc, .slice h.m m.mT.length h.mc, .slice h.l m.lT.length h.lc, .slice h.i m.iT.length h.ic, .int .i64 m.dT, .int .i64 m.oT, .int .i64 m.vT, .int .i64 m.aT, .slice h.u m.uT.length h.uc] _ (fun W hW => model_range hW.s.m) Tryz.underlying29 rfl sizeModel) hHeld ?_
      simp only [Act.put, List.getElem_toArray, List.getElem_cons_zero, List.setIfInBounds_toArray, List.set_cons_zero, List.set_cons_succ]
      refine wpAnyH_take (i := 1) (oi := _) (v := _) rfl (by kernel_rfl) (by kernel_rfl) (by kernel_rfl) (fun _ _ _ h => h) (yieldsIf_load_mid (by rfl) 54 _ rfl be 0 rfl [.int .i64 5, .int .i64 0, .int .i64 0, .int .i64 0, .int .i64 0, .int .i64 0, .string ⟨#[]⟩, .int .i64 0, .int .i64 0, .int .i64 0, .bool false, .int .i64 0, .slice none 0 0, .slice none 0 0, .slice none 0 0, .int .i64 0, .int .i64 0, .int .i64 0, .int .i64 0, .int .i64 0, .bool false, .int .i64 0] _ (fun W hW => evE_range hW.e) Tryz.underlying54 rfl sizeEv) hHeld ?_
      simp only [Act.put, List.getElem_toArray, List.getElem_cons_succ, List.getElem_cons_zero, List.setIfInBounds_toArray, List.set_cons_zero, List.set_cons_succ]
      refine wpAnyH_take (i := 5) (oi := _) (v := ?_) rfl (by kernel_rfl) (by kernel_rfl) (by kernel_rfl) (fun _ _ _ h => h) (Or.inl ⟨by rfl, ?_⟩) hHeld ?_
      rotate_left
      · intro W hSw; (try dsimp only at hSw); go_simp; try with_reducible rfl
      simp only [Act.put, List.getElem_toArray, List.getElem_cons_succ, List.getElem_cons_zero, List.setIfInBounds_toArray, List.set_cons_zero, List.set_cons_succ]
      refine wpAnyH_ready (rs := [2]) (by kernel_rfl) (by simp) ?_
      refine AllReadyH.cons rfl (fun K hK => ?_) AllReadyH.nil
      go_simp
      have hba : Below wr.drew.heap.size wr.drew (wr.drew.alloc (.cells #[.int .i64 5, .int .i64 0, .int .i64 0, .int .i64 0, .int .i64 0, .int .i64 0, .string ⟨#[]⟩, .int .i64 0, .int .i64 0, .int .i64 0, .bool false, .int .i64 0, .slice none 0 0, .slice none 0 0, .slice none 0 0, .int .i64 0, .int .i64 0, .int .i64 0, .int .i64 0, .int .i64 0, .bool false, .int .i64 0] 54)) := (Below.refl _ _).alloc (Nat.le_refl _) _
      have HS1 := hide (hs.out.drew.grow hba)
      have HR1 := hide (show Rows encEv 22 (wr.drew.alloc (.cells #[.int .i64 5, .int .i64 0, .int .i64 0, .int .i64 0, .int .i64 0, .int .i64 0, .string ⟨#[]⟩, .int .i64 0, .int .i64 0, .int .i64 0, .bool false, .int .i64 0, .slice none 0 0, .slice none 0 0, .slice none 0 0, .int .i64 0, .int .i64 0, .int .i64 0, .int .i64 0, .int .i64 0, .bool false, .int .i64 0] 54)) (wr.drew.alloc (.cells #[.int .i64 5, .int .i64 0, .int .i64 0, .int .i64 0, .int .i64 0, .int .i64 0, .string ⟨#[]⟩, .int .i64 0, .int .i64 0, .int .i64 0, .bool false, .int .i64 0, .slice none 0 0, .slice none 0 0, .slice none 0 0, .int .i64 0, .int .i64 0, .int .i64 0, .int .i64 0, .int .i64 0, .bool false, .int .i64 0] 54)).heap.size (some ⟨wr.drew.heap.size, 0, none⟩) [evE] from rows1 (Blk.new _ _ _) (by simp) rfl (evT_E (wr.drew.alloc (.cells #[.int .i64 5, .int .i64 0, .int .i64 0, .int .i64 0, .int .i64 0, .int .i64 0, .string ⟨#[]⟩, .int .i64 0, .int .i64 0, .int .i64 0, .bool false, .int .i64 0, .slice none 0 0, .slice none 0 0, .slice none 0 0, .int .i64 0, .int .i64 0, .int .i64 0, .int .i64 0, .int .i64 0, .bool false, .int .i64 0] 54)) 0).enc)
      refine hK.out _ _ HS1.out (fun hHeld => ?_)
      clear hK K hba
      refine wpAnyH_ready (rs := [3]) (by kernel_rfl) (by simp) ?_
      refine AllReadyH.cons rfl (fun K hK => ?_) AllReadyH.nil
      go_simp
      go_at_call 19
      refine (HDK.out _ HS1.out.s.b _ 1 [evE] N 1 HR1.out (by decide) (by decide) (by decide) HO2.out HD1.out rfl).mono ?_
      rintro e w4 ⟨A4, c4, rfl, hb4⟩
      have HS4 := hide (HS1.out.grow hb4)
      dsimp only
      refine hK.out _ _ HS4.out (fun hHeld => ?_)
      clear hK K hb4
      refine wpAnyH_take (i := 4) (oi := _) (v := ?_) rfl (by kernel_rfl) (by kernel_rfl) (by kernel_rfl) (fun _ _ _ h => h) (Or.inl ⟨by rfl, ?_⟩) hHeld ?_
      rotate_left
      · intro W hSw; (try dsimp only at hSw); go_simp; try with_reducible rfl
      simp only [Act.put, List.getElem_toArray, List.getElem_cons_succ, List.getElem_cons_zero, List.setIfInBounds_toArray, List.set_cons_zero, List.set_cons_succ]
      refine wpAnyH_take (i := 6) (oi := _) (v := ?_) rfl (by kernel_rfl) (by kernel_rfl) (by kernel_rfl) (fun _ _ _ h => h) (Or.inl ⟨by rfl, ?_⟩) hHeld ?_
      rotate_left
      · intro W hSw; (try dsimp only at hSw); go_simp; try with_reducible rfl
      simp only [Act.put, List.getElem_toArray, List.getElem_cons_succ, List.getElem_cons_zero, List.setIfInBounds_toArray, List.set_cons_zero, List.set_cons_succ]
      refine wpAnyH_take (i := 7) (oi := _) (v := ?_) rfl (by kernel_rfl) (by kernel_rfl) (by kernel_rfl) (fun _ _ _ h => h) (Or.inl ⟨by rfl, ?_⟩) hHeld ?_
      rotate_left
      · intro W hSw; (try dsimp only at hSw); go_simp; try with_reducible rfl
      simp only [Act.put, List.getElem_toArray, List.getElem_cons_succ, List.getElem_cons_zero, List.setIfInBounds_toArray, List.set_cons_zero, List.set_cons_succ]
      refine wpAnyH_take (i := 8) (oi := _) (v := _) rfl (by kernel_rfl) (by kernel_rfl) (by kernel_rfl) (fun _ _ _ h => h) (yieldsIf_load_mid (by rfl) 29 _ rfl w.heap.size 0 rfl [.slice h.s m.sT.length h.sc, .slice h.f m.fT.length h.fc, .slice h.r m.rT.length h.rc, .slice h.m m.mT.length h.mc, .slice h.l m.lT.length h.lc, .slice h.i m.iT.length h.ic, .int .i64 m.dT, .int .i64 m.oT, .int .i64 m.vT, .int .i64 m.aT, .slice h.u m.uT.length h.uc] _ (fun W hW => model_range hW.s.m) Tryz.underlying29 rfl sizeModel) hHeld ?_
      simp only [Act.put, List.getElem_toArray, List.getElem_cons_succ, List.getElem_cons_zero, List.setIfInBounds_toArray, List.set_cons_zero, List.set_cons_succ]
      refine wpAnyH_take (i := 9) (oi := _) (v := ?_) rfl (by kernel_rfl) (by kernel_rfl) (by kernel_rfl) (fun _ _ _ h => h) (Or.inl ⟨by rfl, ?_⟩) hHeld ?_
      rotate_left
      · intro W hSw; (try dsimp only at hSw); go_simp; try with_reducible rfl
      simp only [Act.put, List.getElem_toArray, List.getElem_cons_succ, List.getElem_cons_zero, List.setIfInBounds_toArray, List.set_cons_zero, List.set_cons_succ]
      refine wpAnyH_take (i := 10) (oi := _) (v := _) rfl (by kernel_rfl) (by kernel_rfl) (by kernel_rfl) (fun _ _ _ h => h) (yieldsIf_load_mid (by rfl) 54 _ rfl be 0 rfl [.int .i64 5, .int .i64 0, .int .i64 0, .int .i64 0, .int .i64 0, .int .i64 0, .string ⟨#[]⟩, .int .i64 0, .int .i64 0, .int .i64 0, .bool false, .int .i64 0, .slice none 0 0, .slice none 0 0, .slice none 0 0, .int .i64 0, .int .i64 0, .int .i64 0, .int .i64 0, .int .i64 0, .bool false, .int .i64 0] _ (fun W hW => evE_range hW.e) Tryz.underlying54 rfl sizeEv) hHeld ?_
      simp only [Act.put, List.getElem_toArray, List.getElem_cons_succ, List.getElem_cons_zero, List.setIfInBounds_toArray, List.set_cons_zero, List.set_cons_succ]
      refine wpAnyH_ready (rs := [11]) (by kernel_rfl) (by simp) ?_
      refine AllReadyH.cons rfl (fun K hK => ?_) AllReadyH.nil
      go_simp
      have hba : Below w4.heap.size w4 (w4.alloc (.cells #[.int .i64 5, .int .i64 0, .int .i64 0, .int .i64 0, .int .i64 0, .int .i64 0, .string ⟨#[]⟩, .int .i64 0, .int .i64 0, .int .i64 0, .bool false, .int .i64 0, .slice none 0 0, .slice none 0 0, .slice none 0 0, .int .i64 0, .int .i64 0, .int .i64 0, .int .i64 0, .int .i64 0, .bool false, .int .i64 0] 54)) := (Below.refl _ _).alloc (Nat.le_refl _) _
      have HS5 := hide (HS4.out.grow hba)
      have HR5 := hide (newEv w4 [.int .i64 5, .int .i64 0, .int .i64 0, .int .i64 0, .int .i64 0, .int .i64 0, .string ⟨#[]⟩, .int .i64 0, .int .i64 0, .int .i64 0, .bool false, .int .i64 0, .slice none 0 0, .slice none 0 0, .slice none 0 0, .int .i64 0, .int .i64 0, .int .i64 0, .int .i64 0, .int .i64 0, .bool false, .int .i64 0] rfl)
      refine hK.out _ _ HS5.out (fun hHeld => ?_)
      clear hK K hba
      refine wpAnyH_ready (rs := [12]) (by kernel_rfl) (by simp) ?_
      refine AllReadyH.cons rfl (fun K hK => ?_) AllReadyH.nil
      refine step_append_evk (by rfl) _ _ rfl (be + 1) _ L rfl wr.heap.size HS5.out.o (w4.heap.size + 1) ⟨w4.heap.size, 0, none⟩ _ evE [.int .i64 5, .int .i64 0, .int .i64 0, .int .i64 0, .int .i64 0, .int .i64 0, .string ⟨#[]⟩, .int .i64 0, .int .i64 0, .int .i64 0, .bool false, .int .i64 0, .slice none 0 0, .slice none 0 0, .slice none 0 0, .int .i64 0, .int .i64 0, .int .i64 0, .int .i64 0, .int .i64 0, .bool false, .int .i64 0] rfl HR5.out (evT_E _ _) (by omega) (by have := HS5.out.e.lt; omega) ?_
      intro v6 w6 ho6 hk6 hg6
      have HS6 := hide (HS5.out.evs hg6 hk6)
      obtain ⟨A6, c6, rfl, hlc6, hcm6, hR6⟩ := ho6.rows
      have HR6 := hide hR6
      have HC6 := hide (And.intro hlc6 hcm6)
      clear ho6 hk6 hg6 hR6 hlc6 hcm6
      refine hK.out _ _ HS6.out (fun hHeld => ?_)
      clear hK K
      refine wpAnyH_ready (rs := [13]) (by kernel_rfl) (by simp) ?_
      refine AllReadyH.cons rfl (fun K hK => ?_) AllReadyH.nil
      go_simp
      go_at_call 19
      refine (HDK.out _ HS6.out.s.b A6 c6 (L ++ [evE]) 0 _ HR6.out (by simp; omega) HC6.out.1 HC6.out.2 (fun x hx => (List.mem_append.1 hx).elim (HO1.out x) (HO2.out x)) HD2.out (by simp)).mono ?_
      rintro e w7 ⟨A7, c7, rfl, hb7⟩
      have HS7 := hide (HS6.out.grow hb7)
      dsimp only
      refine hK.out _ _ HS7.out (fun hHeld => ?_)
      clear hK K hb7
      refine wpAnyH_take (i := 14) (oi := _) (v := ?_) rfl (by kernel_rfl) (by kernel_rfl) (by kernel_rfl) (fun _ _ _ h => h) (Or.inl ⟨by rfl, ?_⟩) hHeld ?_
      rotate_left
      · intro W hSw; (try dsimp only at hSw); go_simp; try with_reducible rfl
      simp only [Act.put, List.getElem_toArray, List.getElem_cons_succ, List.getElem_cons_zero, List.setIfInBounds_toArray, List.set_cons_zero, List.set_cons_succ]
      refine wpAnyH_take (i := 15) (oi := _) (v := ?_) rfl (by kernel_rfl) (by kernel_rfl) (by kernel_rfl) (fun _ _ _ h => h) (Or.inl ⟨by rfl, ?_⟩) hHeld ?_
      rotate_left
      · intro W hSw; (try dsimp only at hSw); go_simp; try with_reducible rfl
      simp only [Act.put, List.getElem_toArray, List.getElem_cons_succ, List.getElem_cons_zero, List.setIfInBounds_toArray, List.set_cons_zero, List.set_cons_succ]
      refine wpAnyH_take (i := 16) (oi := _) (v := ?_) rfl (by kernel_rfl) (by kernel_rfl) (by kernel_rfl) (fun _ _ _ h => h) (Or.inl ⟨by rfl, ?_⟩) hHeld ?_
      rotate_left
      · intro W hSw; (try dsimp only at hSw); go_simp; try with_reducible rfl
      simp only [Act.put, List.getElem_toArray, List.getElem_cons_succ, List.getElem_cons_zero, List.setIfInBounds_toArray, List.set_cons_zero, List.set_cons_succ]
      refine wpAnyH_take (i := 17) (oi := _) (v := ?_) rfl (by kernel_rfl) (by kernel_rfl) (by kernel_rfl) (fun _ _ _ h => h) (Or.inl ⟨by rfl, ?_⟩) hHeld ?_
      rotate_left
      · intro W hSw; (try dsimp only at hSw); go_simp; try with_reducible rfl
      simp only [Act.put, List.getElem_toArray, List.getElem_cons_succ, List.getElem_cons_zero, List.setIfInBounds_toArray, List.set_cons_zero, List.set_cons_succ]
      refine wpAnyH_take (i := 18) (oi := _) (v := _) rfl (by kernel_rfl) (by kernel_rfl) (by kernel_rfl) (fun _ _ _ h => h) (yieldsIf_load_mid (by rfl) 29 _ rfl w.heap.size 0 rfl [.slice h.s m.sT.length h.sc, .slice h.f m.fT.length h.fc, .slice h.r m.rT.length h.rc, .slice h.m m.mT.length h.mc, .slice h.l m.lT.length h.lc, .slice h.i m.iT.length h.ic, .int .i64 m.dT, .int .i64 m.oT, .int .i64 m.vT, .int .i64 m.aT, .slice h.u m.uT.length h.uc] _ (fun W hW => model_range hW.s.m) Tryz.underlying29 rfl sizeModel) hHeld ?_
      simp only [Act.put, List.getElem_toArray, List.getElem_cons_succ, List.getElem_cons_zero, List.setIfInBounds_toArray, List.set_cons_zero, List.set_cons_succ]
      refine wpAnyH_take (i := 19) (oi := _) (v := ?_) rfl (by kernel_rfl) (by kernel_rfl) (by kernel_rfl) (fun _ _ _ h => h) (Or.inl ⟨by rfl, ?_⟩) hHeld ?_
      rotate_left
      · intro W hSw; (try dsimp only at hSw); go_simp; try with_reducible rfl
      simp only [Act.put, List.getElem_toArray, List.getElem_cons_succ, List.getElem_cons_zero, List.setIfInBounds_toArray, List.set_cons_zero, List.set_cons_succ]
      refine wpAnyH_ready (rs := [20]) (by kernel_rfl) (by simp) ?_
      refine AllReadyH.cons rfl (fun K hK => ?_) AllReadyH.nil
      go_simp
      go_at_call 19
      obtain ⟨A8, c8, e8, h81, h82, hR8⟩ := HS7.out.o.rows
      injection e8 with e8 e9 e10
      subst e8 e10
      refine (HDK.out _ HS7.out.s.b A5 c5 L 0 L.length hR8 (by omega) h81 h82 HO1.out HD3.out rfl).mono ?_
      rintro e w9 ⟨A9, c9, rfl, hb9⟩
      have HS9 := hide (HS7.out.grow hb9)
      dsimp only
      refine hK.out _ _ HS9.out (fun hHeld => ?_)
      clear hK K hb9 hR8 h81 h82
      refine wpAnyH_take (i := 21) (oi := _) (v := ?_) rfl (by kernel_rfl) (by kernel_rfl) (by kernel_rfl) (fun _ _ _ h => h) (Or.inl ⟨by rfl, ?_⟩) hHeld ?_
      rotate_left
      · intro W hSw; (try dsimp only at hSw); go_simp; try with_reducible rfl
      simp only [Act.put, List.getElem_toArray, List.getElem_cons_succ, List.getElem_cons_zero, List.setIfInBounds_toArray, List.set_cons_zero, List.set_cons_succ]
      refine wpAnyH_take (i := 22) (oi := _) (v := ?_) rfl (by kernel_rfl) (by kernel_rfl) (by kernel_rfl) (fun _ _ _ h => h) (Or.inl ⟨by rfl, ?_⟩) hHeld ?_
      rotate_left
      · intro W hSw; (try dsimp only at hSw); go_simp; try with_reducible rfl
      simp only [Act.put, List.getElem_toArray, List.getElem_cons_succ, List.getElem_cons_zero, List.setIfInBounds_toArray, List.set_cons_zero, List.set_cons_succ]
      refine wpAnyH_take (i := 23) (oi := _) (v := ?_) rfl (by kernel_rfl) (by kernel_rfl) (by kernel_rfl) (fun _ _ _ h => h) (Or.inl ⟨by rfl, ?_⟩) hHeld ?_
      rotate_left
      · intro W hSw; (try dsimp only at hSw); go_simp; try with_reducible rfl
      simp only [Act.put, List.getElem_toArray, List.getElem_cons_succ, List.getElem_cons_zero, List.setIfInBounds_toArray, List.set_cons_zero, List.set_cons_succ]
      refine wpAnyH_take (i := 24) (oi := _) (v := ?_) rfl (by kernel_rfl) (by kernel_rfl) (by kernel_rfl) (fun _ _ _ h => h) (Or.inl ⟨by rfl, ?_⟩) hHeld ?_
      rotate_left
      · intro W hSw; (try dsimp only at hSw); go_simp; try with_reducible rfl
      simp only [Act.put, List.getElem_toArray, List.getElem_cons_succ, List.getElem_cons_zero, List.setIfInBounds_toArray, List.set_cons_zero, List.set_cons_succ]
      refine wpAnyH_ready (rs := [25]) (by kernel_rfl) (by simp) ?_
      refine AllReadyH.cons rfl (fun K hK => ?_) AllReadyH.nil
      go_simp
      go_at_call 11
      refine (HAW.out _ HS9.out.s.b).mono ?_
      rintro e w10 ⟨rfl, hb10⟩
      have HB10 := hide (HS9.out.s.b.trans (hb10.mono HS9.out.s.b.size))
      dsimp only
      refine hK.out _ _ (HS9.out.grow hb10) (fun hHeld => ?_)
      clear hK K hb10
      refine wpAnyH_take (i := 26) (oi := _) (v := ?_) rfl (by kernel_rfl) (by kernel_rfl) (by kernel_rfl) (fun _ _ _ h => h) (Or.inl ⟨by rfl, ?_⟩) hHeld ?_
      rotate_left
      · intro W hSw; (try dsimp only at hSw); go_simp; try with_reducible rfl
      simp only [Act.put, List.getElem_toArray, List.getElem_cons_succ, List.getElem_cons_zero, List.setIfInBounds_toArray, List.set_cons_zero, List.set_cons_succ]
      refine wpAnyH_take (i := 27) (oi := _) (v := ?_) rfl (by kernel_rfl) (by kernel_rfl) (by kernel_rfl) (fun _ _ _ h => h) (Or.inl ⟨by rfl, ?_⟩) hHeld ?_
      rotate_left
      · intro W hSw; (try dsimp only at hSw); go_simp; try with_reducible rfl
      simp only [Act.put, List.getElem_toArray, List.getElem_cons_succ, List.getElem_cons_zero, List.setIfInBounds_toArray, List.set_cons_zero, List.set_cons_succ]
      refine wpAnyH_done (by kernel_rfl) ?_ _
      go_wp2_with fail
      go_ret
      exact ⟨rfl, HB10.out⟩
end Go.Proofs.YtaepcjklimigmaaGreatDoor
