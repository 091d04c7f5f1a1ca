/- A part of the claim: see its last text. -/
import Derived.Test.YtlnjaemdelnceaaGreatDoorUK30
import Derived.Test.YtlnjaemdelnceaaGreatDoorUK38
import Derived.Test.YtlnjaemdelnceaaGreatDoorUK21

set_option maxRecDepth 100000
set_option maxHeartbeats 16000000
namespace Go.Proofs.YtlnjaemdelnceaaGreatDoor
open Go Go.RowKit Go.Proofs
theorem darkR_prog (h : MH) (m : Mod) (x : Int) (w : World) (d : MD w w.heap.size h m) :
    Calls Tryz.prog 44 #[.agg #[.slice h.s m.sT.length h.sc, .slice h.f m.fT.length h.fc, .slice h.r m.rT.length h.rc, .slice h.m m.mT.length h.mc, .slice h.l m.lT.length h.lc, .slice h.i m.iT.length h.ic, .int .i64 m.dT, .int .i64 m.oT, .int .i64 m.vT, .int .i64 m.aT, .slice h.u m.uT.length h.uc], .int .i64 x] w (AnsR w (.bool (inDark m x))) := by
 have HS := hide (show MS w #[.slice h.s m.sT.length h.sc, .slice h.f m.fT.length h.fc, .slice h.r m.rT.length h.rc, .slice h.m m.mT.length h.mc, .slice h.l m.lT.length h.lc, .slice h.i m.iT.length h.ic, .int .i64 m.dT, .int .i64 m.oT, .int .i64 m.vT, .int .i64 m.aT, .slice h.u m.uT.length h.uc] (w.alloc (.cells #[.slice h.s m.sT.length h.sc, .slice h.f m.fT.length h.fc, .slice h.r m.rT.length h.rc, .slice h.m m.mT.length h.mc, .slice h.l m.lT.length h.lc, .slice h.i m.iT.length h.ic, .int .i64 m.dT, .int .i64 m.oT, .int .i64 m.vT, .int .i64 m.aT, .slice h.u m.uT.length h.uc] 29)) from MS.mk (Blk.new _ _ _) ((Below.refl _ _).alloc (Nat.le_refl _) _))
 have HD := hide (fun V (hb : Below w.heap.size w V) => domain_ref h m 4 x V (d.grow hb))
 have hU : undef = Value.tuple #[] := rfl
 have hB2 : ∀ b : Bool, b = false ∨ b = true := fun b => by cases b <;> simp
 clear d
 rcases hB2 (decide (1 ≤ m.dT)) with hd | hd
 · have HV := hide (show inDark m x = false by unfold inDark; rw [hd]; rfl)
   have x6 := HS.out.m.cell 6
   have ml := HS.out.m.lt
   simp at x6
   go_enter Tryz.func44, Tryz.ntmps44
   go_wp2_with fail
   refine (show ∀ W0, MS w #[.slice h.s m.sT.length h.sc, .slice h.f m.fT.length h.fc, .slice h.r m.rT.length h.rc, .slice h.m m.mT.length h.mc, .slice h.l m.lT.length h.lc, .slice h.i m.iT.length h.ic, .int .i64 m.dT, .int .i64 m.oT, .int .i64 m.vT, .int .i64 m.aT, .slice h.u m.uT.length h.uc] W0 → Code.wp Tryz.prog _ _ _ W0 from ?_) _ HS.out
   intro W0 hS0
   have g6 := hS0.m.cell 6
   have gl := hS0.m.lt
   simp at g6
   have HS0 := hide hS0
   clear hS0 x6 ml
   go_quiet (fail)
   go_wp2_with fail
   go_ret
   exact ⟨ret_congr (by rw [HV.out]; rfl), below_drawn HS0.out.b _⟩
 · have HV := hide (show inDark m x = (domI m 4 x == m.dT) by unfold inDark; rw [hd, Bool.true_and, Bool.eq_iff_iff, decide_eq_true_eq, beq_iff_eq])
   go_enter Tryz.func44, Tryz.ntmps44
   go_wp2_with fail
   first
    | (go_region_held3 (fun W => (W.cell? ⟨w.heap.size, 0, none⟩ = some (.slice h.s m.sT.length h.sc) ∧ W.cell? ⟨w.heap.size, 1, none⟩ = some (.slice h.f m.fT.length h.fc) ∧ W.cell? ⟨w.heap.size, 2, none⟩ = some (.slice h.r m.rT.length h.rc) ∧ W.cell? ⟨w.heap.size, 3, none⟩ = some (.slice h.m m.mT.length h.mc) ∧ W.cell? ⟨w.heap.size, 4, none⟩ = some (.slice h.l m.lT.length h.lc) ∧ W.cell? ⟨w.heap.size, 5, none⟩ = some (.slice h.i m.iT.length h.ic) ∧ W.cell? ⟨w.heap.size, 6, none⟩ = some (.int .i64 m.dT) ∧ W.cell? ⟨w.heap.size, 7, none⟩ = some (.int .i64 m.oT) ∧ W.cell? ⟨w.heap.size, 8, none⟩ = some (.int .i64 m.vT) ∧ W.cell? ⟨w.heap.size, 9, none⟩ = some (.int .i64 m.aT) ∧ W.cell? ⟨w.heap.size, 10, none⟩ = some (.slice h.u m.uT.length h.uc)) ∧ MS w #[.slice h.s m.sT.length h.sc, .slice h.f m.fT.length h.fc, .slice h.r m.rT.length h.rc, .slice h.m m.mT.length h.mc, .slice h.l m.lT.length h.lc, .slice h.i m.iT.length h.ic, .int .i64 m.dT, .int .i64 m.oT, .int .i64 m.vT, .int .i64 m.aT, .slice h.u m.uT.length h.uc] W) ((with_reducible (first | (go_keep; done) | exact ⟨MS.cells HS.out.drew, HS.out.drew⟩ | exact ⟨MS.cells c7, c7⟩ | (have hH := (by assumption : _ ∧ MS _ _ _); exact ⟨MS.cells (MS.drew hH.2), MS.drew hH.2⟩)))) ((go_at_call 53; have hbw := HS.out.drew.b; (with_reducible refine (HD.out _ hbw).mono ?_); rintro e w1 ⟨rfl, hb1⟩; have c7 := MS.grow HS.out.drew hb1; clear hb1)))
    | fail
   all_goals
    go_wp2_with fail
    go_ret
    exact ⟨ret_congr (by rw [HV.out]; rfl), c7.b⟩
theorem filt_succ (m : Mod) (l : List UnitM) {k : Nat} (hk : k < l.length) : (((l.take (k + 1)).map (·.1)).filter (inDark m)).length = (((l.take k).map (·.1)).filter (inDark m)).length + if inDark m l[k].1 = true then 1 else 0 := by
 rw [List.take_succ_eq_append_getElem hk, List.map_append, List.filter_append, List.length_append]
 cases e : inDark m l[k].1 <;> simp [e]
def DuS (w : World) (M : Array Value) (q : Addr) (x : Int) (W0 W : World) : Prop := MS w M W ∧ W.cell? q = some (.int .i64 x) ∧ q.block < W.heap.size ∧ Below W0.heap.size W0 W
theorem DuS.drew {w : World} {M : Array Value} {q : Addr} {x : Int} {W0 W : World} (s : DuS w M q x W0 W) : DuS w M q x W0 W.drew := ⟨s.1.drew, s.2.1, s.2.2.1, s.2.2.2.drew⟩
theorem DuS.grow {w : World} {M : Array Value} {q : Addr} {x : Int} {W0 W W2 : World} (s : DuS w M q x W0 W) (hb : Below W.heap.size W W2) : DuS w M q x W0 W2 := ⟨s.1.grow hb, (hb.cell s.2.2.1).trans s.2.1, Nat.lt_of_lt_of_le s.2.2.1 hb.size, s.2.2.2.trans (hb.mono s.2.2.2.size)⟩
theorem DuS.cells {w : World} {h : MH} {m : Mod} {q : Addr} {x : Int} {W0 W : World} (s : DuS w #[.slice h.s m.sT.length h.sc, .slice h.f m.fT.length h.fc, .slice h.r m.rT.length h.rc, .slice h.m m.mT.length h.mc, .slice h.l m.lT.length h.lc, .slice h.i m.iT.length h.ic, .int .i64 m.dT, .int .i64 m.oT, .int .i64 m.vT, .int .i64 m.aT, .slice h.u m.uT.length h.uc] q x W0 W) : (W.cell? ⟨w.heap.size, 0, none⟩ = some (.slice h.s m.sT.length h.sc) ∧ W.cell? ⟨w.heap.size, 1, none⟩ = some (.slice h.f m.fT.length h.fc) ∧ W.cell? ⟨w.heap.size, 2, none⟩ = some (.slice h.r m.rT.length h.rc) ∧ W.cell? ⟨w.heap.size, 3, none⟩ = some (.slice h.m m.mT.length h.mc) ∧ W.cell? ⟨w.heap.size, 4, none⟩ = some (.slice h.l m.lT.length h.lc) ∧ W.cell? ⟨w.heap.size, 5, none⟩ = some (.slice h.i m.iT.length h.ic) ∧ W.cell? ⟨w.heap.size, 6, none⟩ = some (.int .i64 m.dT) ∧ W.cell? ⟨w.heap.size, 7, none⟩ = some (.int .i64 m.oT) ∧ W.cell? ⟨w.heap.size, 8, none⟩ = some (.int .i64 m.vT) ∧ W.cell? ⟨w.heap.size, 9, none⟩ = some (.int .i64 m.aT) ∧ W.cell? ⟨w.heap.size, 10, none⟩ = some (.slice h.u m.uT.length h.uc)) ∧ W.cell? q = some (.int .i64 x) := ⟨s.1.cells, s.2.1⟩
def DkI (m : Mod) (l : List UnitM) (w w1 : World) (M : Array Value) (n i : Value) (W : World) : Prop := ∃ k : Nat, k ≤ l.length ∧ i = .int .i64 k ∧ n = .int .i64 ((((l.take k).map (·.1)).filter (inDark m)).length : Nat) ∧ Hid (MS w M W ∧ Below w1.heap.size w1 W)
theorem dark20_ref (h : MH) (m : Mod) (A : Option Addr) (c : Nat) (p : PlaceM) (item : Int) (w : World) (d : MD w w.heap.size h m) (hp : PR w w.heap.size A p) (hl : p.length ≤ 1000) (hul : (unitsP p item).length ≤ 1000) :
    Calls Tryz.prog 49 #[.agg #[.slice h.s m.sT.length h.sc, .slice h.f m.fT.length h.fc, .slice h.r m.rT.length h.rc, .slice h.m m.mT.length h.mc, .slice h.l m.lT.length h.lc, .slice h.i m.iT.length h.ic, .int .i64 m.dT, .int .i64 m.oT, .int .i64 m.vT, .int .i64 m.aT, .slice h.u m.uT.length h.uc], .agg #[.slice A p.length c], .int .i64 item] w (AnsR w (.int .i64 ((darkP m p item).length : Nat))) := by
 have HS := hide (MPB.start w #[.slice h.s m.sT.length h.sc, .slice h.f m.fT.length h.fc, .slice h.r m.rT.length h.rc, .slice h.m m.mT.length h.mc, .slice h.l m.lT.length h.lc, .slice h.i m.iT.length h.ic, .int .i64 m.dT, .int .i64 m.oT, .int .i64 m.vT, .int .i64 m.aT, .slice h.u m.uT.length h.uc] #[.slice A p.length c])
 have HD := hide (fun V (hb : Below w.heap.size w V) x => domain_ref h m 4 x V (d.grow hb))
 have HU := hide (units_rd A c p item _ (hp.grow HS.out.b) (by omega))
 have hV : (darkP m p item).length = ((((unitsP p item)).map (·.1)).filter (inDark m)).length := rfl
 rw [hV]
 obtain ⟨l, hL⟩ : ∃ l, l = unitsP p item := ⟨_, rfl⟩
 rw [← hL] at HU hul ⊢
 have hU : undef = Value.tuple #[] := rfl
 have hB2 : ∀ b : Bool, b = false ∨ b = true := fun b => by cases b <;> simp
 clear hV hL d hp
 go_enter Tryz.func49, Tryz.ntmps49
 go_wp2_with (go_at_call 43; refine HU.out.mono ?_; rintro e w1 ⟨A2, c2, rfl, hr, hb1⟩
              have HR := hide hr
              have HS1 := hide (show MS w #[.slice h.s m.sT.length h.sc, .slice h.f m.fT.length h.fc, .slice h.r m.rT.length h.rc, .slice h.m m.mT.length h.mc, .slice h.l m.lT.length h.lc, .slice h.i m.iT.length h.ic, .int .i64 m.dT, .int .i64 m.oT, .int .i64 m.vT, .int .i64 m.aT, .slice h.u m.uT.length h.uc] w1 from MS.mk (HS.out.m.below hb1 HS.out.m.lt) (HS.out.b.trans (hb1.mono HS.out.b.size)))
              clear hr hb1)
 go_loopw [8, 9] (fun n i wr => DkI m l w w1 #[.slice h.s m.sT.length h.sc, .slice h.f m.fT.length h.fc, .slice h.r m.rT.length h.rc, .slice h.m m.mT.length h.mc, .slice h.l m.lT.length h.lc, .slice h.i m.iT.length h.ic, .int .i64 m.dT, .int .i64 m.oT, .int .i64 m.vT, .int .i64 m.aT, .slice h.u m.uT.length h.uc] n i wr) (fun _ i _ => l.length - (intOf i).toNat)
 case atStart => exact ⟨0, Nat.zero_le _, rfl, rfl, HS1.out, Below.refl _ _⟩
 case round =>
  clear HS1 HS
  obtain ⟨k, hk, rfl, rfl, hS⟩ := hrel
  obtain ⟨N, hN⟩ : ∃ N, N = (((l.take k).map (·.1)).filter (inDark m)).length := ⟨_, rfl⟩
  have hN1 : N ≤ 1000 := by rw [hN]; have h9 := List.length_filter_le (inDark m) ((l.take k).map (·.1)); rw [List.length_map, List.length_take] at h9; omega
  by_cases hlt : k < l.length
  · obtain ⟨b, off, hA, hb, x0, x1⟩ := (HR.out.grow hS.out.2).at_ hlt
    subst hA
    have HFS := hide (filt_succ m l hlt)
    obtain ⟨x, hx⟩ : ∃ x, x = l[k].1 := ⟨_, rfl⟩
    rw [← hx] at HFS x0
    rw [← hN] at HFS ⊢
    have HSD := hide (show DuS w #[.slice h.s m.sT.length h.sc, .slice h.f m.fT.length h.fc, .slice h.r m.rT.length h.rc, .slice h.m m.mT.length h.mc, .slice h.l m.lT.length h.lc, .slice h.i m.iT.length h.ic, .int .i64 m.dT, .int .i64 m.oT, .int .i64 m.vT, .int .i64 m.aT, .slice h.u m.uT.length h.uc] ⟨b, off + k * 2, none⟩ x w1 wr from ⟨hS.out.1, x0, hb, hS.out.2⟩)
    have HLT := hide hlt
    have hkI : (k : Int) < (l.length : Int) := by omega
    clear hx hN x0 x1 hS
    rcases hB2 (decide (1 ≤ m.dT)) with hd | hd
    · have HV := hide (show inDark m x = false by unfold inDark; rw [hd]; rfl)
      obtain ⟨a0, a1, a2, a3, a4, a5, a6, a7, a8, a9, a10⟩ := MS.cells HSD.out.1
      have ml := HSD.out.1.m.lt
      go_wp2_with fail
      go_quiet (fail)
      go_wp2_with fail
      go_roundw
      case rel => exact ⟨k + 1, HLT.out, by go_num, by rw [HFS.out, HV.out]; rfl, hide ⟨HSD.out.1.grow (below_drawn (Below.refl wr.heap.size wr) _), HSD.out.2.2.2.trans ((below_drawn (Below.refl wr.heap.size wr) _).mono HSD.out.2.2.2.size)⟩⟩
      case measure => have := HLT.out; simp [intOf]; omega
    · have HV := hide (show inDark m x = (domI m 4 x == m.dT) by unfold inDark; rw [hd, Bool.true_and, Bool.eq_iff_iff, decide_eq_true_eq, beq_iff_eq])
      have HDX := hide (fun V (hb : Below w.heap.size w V) => HD.out V hb x)
      have hbl : b < wr.heap.size := hb
      go_wp2_with fail
      first
       | (go_region_held3 (fun W => ((W.cell? ⟨w.heap.size, 0, none⟩ = some (.slice h.s m.sT.length h.sc) ∧ W.cell? ⟨w.heap.size, 1, none⟩ = some (.slice h.f m.fT.length h.fc) ∧ W.cell? ⟨w.heap.size, 2, none⟩ = some (.slice h.r m.rT.length h.rc) ∧ W.cell? ⟨w.heap.size, 3, none⟩ = some (.slice h.m m.mT.length h.mc) ∧ W.cell? ⟨w.heap.size, 4, none⟩ = some (.slice h.l m.lT.length h.lc) ∧ W.cell? ⟨w.heap.size, 5, none⟩ = some (.slice h.i m.iT.length h.ic) ∧ W.cell? ⟨w.heap.size, 6, none⟩ = some (.int .i64 m.dT) ∧ W.cell? ⟨w.heap.size, 7, none⟩ = some (.int .i64 m.oT) ∧ W.cell? ⟨w.heap.size, 8, none⟩ = some (.int .i64 m.vT) ∧ W.cell? ⟨w.heap.size, 9, none⟩ = some (.int .i64 m.aT) ∧ W.cell? ⟨w.heap.size, 10, none⟩ = some (.slice h.u m.uT.length h.uc)) ∧ W.cell? ⟨b, off + k * 2, none⟩ = some (.int .i64 x)) ∧ DuS w #[.slice h.s m.sT.length h.sc, .slice h.f m.fT.length h.fc, .slice h.r m.rT.length h.rc, .slice h.m m.mT.length h.mc, .slice h.l m.lT.length h.lc, .slice h.i m.iT.length h.ic, .int .i64 m.dT, .int .i64 m.oT, .int .i64 m.vT, .int .i64 m.aT, .slice h.u m.uT.length h.uc] ⟨b, off + k * 2, none⟩ x w1 W) ((with_reducible (first | (go_keep; done) | exact ⟨DuS.cells HSD.out.drew, HSD.out.drew⟩ | exact ⟨DuS.cells c7, c7⟩ | (have hH := (by assumption : _ ∧ DuS _ _ _ _ _ _); exact ⟨DuS.cells (DuS.drew hH.2), DuS.drew hH.2⟩)))) ((go_at_call 53; have hbw := HSD.out.drew.1.b; (with_reducible refine (HDX.out _ hbw).mono ?_); rintro e w2 ⟨rfl, hb1⟩; have c7 := DuS.grow HSD.out.drew hb1; clear hb1)))
       | fail
      all_goals
       cases hq : (domI m 4 x == m.dT)
       · rw [hq] at HV
         go_wp2_with fail
         go_roundw
         case rel => exact ⟨k + 1, HLT.out, by go_num, by rw [HFS.out, HV.out]; rfl, hide ⟨c7.1, c7.2.2.2⟩⟩
         case measure => have := HLT.out; simp [intOf]; omega
       · rw [hq] at HV
         go_wp2_with fail
         go_roundw
         case rel => exact ⟨k + 1, HLT.out, by go_num, by rw [HFS.out, HV.out]; go_num, hide ⟨c7.1, c7.2.2.2⟩⟩
         case measure => have := HLT.out; simp [intOf]; omega
  · obtain rfl : k = l.length := by omega
    rw [List.take_length]
    go_wp2_with fail
    go_ret
    exact ⟨rfl, hS.out.1.b⟩
theorem state_gone (q : PlaceM) (o n : Int) : (stateP q o n).isSome = !goneB q o n := by
 unfold stateP goneB
 rw [Bool.not_not, Option.isSome_map, Bool.eq_iff_iff, List.find?_isSome]
 simp only [decide_eq_true_eq, List.mem_map]
theorem any_no {m : Mod} {l : List UnitM} {f : Int → Bool} : ((l.map (·.1)).filter (inDark m)).any f = false ↔ ∀ j (hj : j < l.length), (inDark m l[j].1 && f l[j].1) = false := by
 constructor
 · intro h j hj
   cases e : inDark m l[j].1
   · rfl
   · rw [Bool.true_and]
     have := List.any_eq_false.1 h l[j].1 (List.mem_filter.2 ⟨List.mem_map.2 ⟨_, List.getElem_mem hj, rfl⟩, e⟩)
     simpa using this
 · intro h
   rw [List.any_eq_false]
   intro x hx
   obtain ⟨hx, hd⟩ := List.mem_filter.1 hx
   obtain ⟨u, hu, rfl⟩ := List.mem_map.1 hx
   obtain ⟨j, hj, rfl⟩ := List.getElem_of_mem hu
   have := h j hj
   rw [hd, Bool.true_and] at this
   simp [this]
theorem any_yes {m : Mod} {l : List UnitM} {f : Int → Bool} {j : Nat} (hj : j < l.length) (h : (inDark m l[j].1 && f l[j].1) = true) : ((l.map (·.1)).filter (inDark m)).any f = true := by
 rw [Bool.and_eq_true] at h
 exact List.any_eq_true.2 ⟨_, List.mem_filter.2 ⟨List.mem_map.2 ⟨_, List.getElem_mem hj, rfl⟩, h.1⟩, h.2⟩
def OrS (w : World) (M X P Q : Array Value) (q : Addr) (x : Int) (W0 W : World) : Prop := O4 w M X P Q W ∧ W.cell? q = some (.int .i64 x) ∧ q.block < W.heap.size ∧ Below W0.heap.size W0 W
theorem O4.drew {w : World} {M X P Q : Array Value} {W : World} (s : O4 w M X P Q W) : O4 w M X P Q W.drew := ⟨s.m, s.x, s.p, s.q, s.b.drew⟩
theorem OrS.drew {w : World} {M X P Q : Array Value} {q : Addr} {x : Int} {W0 W : World} (s : OrS w M X P Q q x W0 W) : OrS w M X P Q q x W0 W.drew := ⟨s.1.drew, s.2.1, s.2.2.1, s.2.2.2.drew⟩
theorem OrS.grow {w : World} {M X P Q : Array Value} {q : Addr} {x : Int} {W0 W W2 : World} (s : OrS w M X P Q q x W0 W) (hb : Below W.heap.size W W2) : OrS w M X P Q q x W0 W2 := ⟨s.1.grow hb, (hb.cell s.2.2.1).trans s.2.1, Nat.lt_of_lt_of_le s.2.2.1 hb.size, s.2.2.2.trans (hb.mono s.2.2.2.size)⟩
theorem OrS.cells {w : World} {h : MH} {m : Mod} {x : RuleM} {A Aq : Option Addr} {c kq cq : Nat} {P : Array Value} {q : Addr} {y : Int} {W0 W : World} (s : OrS w #[.slice h.s m.sT.length h.sc, .slice h.f m.fT.length h.fc, .slice h.r m.rT.length h.rc, .slice h.m m.mT.length h.mc, .slice h.l m.lT.length h.lc, .slice h.i m.iT.length h.ic, .int .i64 m.dT, .int .i64 m.oT, .int .i64 m.vT, .int .i64 m.aT, .slice h.u m.uT.length h.uc] #[.int .i64 x.kind, .int .i64 x.item, .int .i64 x.other, .int .i64 x.n, .int .i64 x.by_, .bool x.always, .slice A x.machines.length c] P #[.slice Aq kq cq] q y W0 W) :
    (W.cell? ⟨w.heap.size, 0, none⟩ = some (.slice h.s m.sT.length h.sc) ∧ W.cell? ⟨w.heap.size, 1, none⟩ = some (.slice h.f m.fT.length h.fc) ∧ W.cell? ⟨w.heap.size, 2, none⟩ = some (.slice h.r m.rT.length h.rc) ∧ W.cell? ⟨w.heap.size, 3, none⟩ = some (.slice h.m m.mT.length h.mc) ∧ W.cell? ⟨w.heap.size, 4, none⟩ = some (.slice h.l m.lT.length h.lc) ∧ W.cell? ⟨w.heap.size, 5, none⟩ = some (.slice h.i m.iT.length h.ic) ∧ W.cell? ⟨w.heap.size, 6, none⟩ = some (.int .i64 m.dT) ∧ W.cell? ⟨w.heap.size, 7, none⟩ = some (.int .i64 m.oT) ∧ W.cell? ⟨w.heap.size, 8, none⟩ = some (.int .i64 m.vT) ∧ W.cell? ⟨w.heap.size, 9, none⟩ = some (.int .i64 m.aT) ∧ W.cell? ⟨w.heap.size, 10, none⟩ = some (.slice h.u m.uT.length h.uc)) ∧ W.cell? ⟨w.heap.size + 1, 2, none⟩ = some (.int .i64 x.other) ∧ W.cell? ⟨w.heap.size + 1 + 1 + 1, 0, none⟩ = some (.slice Aq kq cq) ∧ W.cell? q = some (.int .i64 y) := ⟨MB.cells s.1.m, s.1.x.cell 2, s.1.q.cell 0, s.2.1⟩
theorem order_ref (h : MH) (m : Mod) (x : RuleM) (A : Option Addr) (c : Nat) (Ap Aq : Option Addr) (cp cq : Nat) (p q : PlaceM) (w : World) (d : MD w w.heap.size h m) (hp : PR w w.heap.size Ap p) (hq : PR w w.heap.size Aq q)
    (hlp : p.length ≤ 1000) (hlq : q.length ≤ 1000) (u1 : (unitsP p x.item).length ≤ 1000) (u2 : (unitsP p x.other).length ≤ 1000) (u3 : (unitsP q x.other).length ≤ 1000) :
    Calls Tryz.prog 22 #[.agg #[.slice h.s m.sT.length h.sc, .slice h.f m.fT.length h.fc, .slice h.r m.rT.length h.rc, .slice h.m m.mT.length h.mc, .slice h.l m.lT.length h.lc, .slice h.i m.iT.length h.ic, .int .i64 m.dT, .int .i64 m.oT, .int .i64 m.vT, .int .i64 m.aT, .slice h.u m.uT.length h.uc], .agg #[.int .i64 x.kind, .int .i64 x.item, .int .i64 x.other, .int .i64 x.n, .int .i64 x.by_, .bool x.always, .slice A x.machines.length c], .agg #[.slice Ap p.length cp], .agg #[.slice Aq q.length cq]] w (AnsR w (.bool (orderB m x p q))) := by
 have HS := hide (O4.start w #[.slice h.s m.sT.length h.sc, .slice h.f m.fT.length h.fc, .slice h.r m.rT.length h.rc, .slice h.m m.mT.length h.mc, .slice h.l m.lT.length h.lc, .slice h.i m.iT.length h.ic, .int .i64 m.dT, .int .i64 m.oT, .int .i64 m.vT, .int .i64 m.aT, .slice h.u m.uT.length h.uc] #[.int .i64 x.kind, .int .i64 x.item, .int .i64 x.other, .int .i64 x.n, .int .i64 x.by_, .bool x.always, .slice A x.machines.length c] #[.slice Ap p.length cp] #[.slice Aq q.length cq])
 have HD1 := hide (fun W (hW : Below w.heap.size w W) => dark20_ref h m Ap cp p x.item W (d.grow hW) (hp.grow hW) hlp u1)
 have HDR := hide (fun W (hW : Below w.heap.size w W) n => darkR_prog h m n W (d.grow hW))
 have HUN := hide (fun W (hW : Below w.heap.size w W) => units_rd Ap cp p x.other W (hp.grow hW) (by omega))
 have HST := hide (fun W (hW : Below w.heap.size w W) n => state_ref Aq cq q x.other n W (hq.grow hW) (by omega) (by omega))
 obtain ⟨L, hL⟩ : ∃ L, L = darkP m p x.item := ⟨_, rfl⟩
 obtain ⟨l, hl⟩ : ∃ l, l = unitsP p x.other := ⟨_, rfl⟩
 have HLL := hide (show L.length ≤ 1000 by rw [hL]; have := darkP_len m p x.item; omega)
 have hV : orderB m x p q = if x.kind = 4 ∧ L ≠ [] then !(((l.map (·.1)).filter (inDark m)).any (goneB q x.other)) else true := by rw [hL, hl]; rfl
 rw [hV]
 rw [← hL] at HD1
 rw [← hl] at HUN u2
 clear hV hL hl d hp hq
 have hU : undef = Value.tuple #[] := rfl
 have hB2 : ∀ b : Bool, b = false ∨ b = true := fun b => by cases b <;> simp
 have hls := HLL.out
 rcases hB2 (x.kind != 4) with g | g
 · rcases hB2 ((L.length : Int) == 0) with g2 | g2
   · have HV := hide (show (if x.kind = 4 ∧ L ≠ [] then !(((l.map (·.1)).filter (inDark m)).any (goneB q x.other)) else true) = !(((l.map (·.1)).filter (inDark m)).any (goneB q x.other)) by
       rw [if_pos ⟨by simpa using g, fun e => by rw [e] at g2; simp at g2⟩])
     rw [HV.out]
     clear HV
     go_enter Tryz.func22, Tryz.ntmps22
     go_wp2_with (first
      | (go_at_call 49; have hbw := HS.out.b; (with_reducible refine (HD1.out _ hbw).mono ?_); rintro e w1 ⟨rfl, hb⟩; have hS := HS.out.grow hb; have x4 := hS.x.cell 2; have q4 := hS.p.cell 0; simp at x4 q4; have l2 := hS.x.lt; have l3 := hS.p.lt; have HS1 := hide hS; clear hb hS)
      | (go_at_call 43; have hbw := HS1.out.b; (with_reducible refine (HUN.out _ hbw).mono ?_); rintro e w2 ⟨A2, c2, rfl, hr, hb⟩; have HR := hide hr; have HS2 := hide (HS1.out.grow hb); clear hr hb))
     go_loopw [10] (fun i wr => ∃ k : Nat, k ≤ l.length ∧ i = .int .i64 k ∧ Hid (∀ j (hj : j < l.length), j < k → (inDark m l[j].1 && goneB q x.other l[j].1) = false) ∧ Hid (O4 w #[.slice h.s m.sT.length h.sc, .slice h.f m.fT.length h.fc, .slice h.r m.rT.length h.rc, .slice h.m m.mT.length h.mc, .slice h.l m.lT.length h.lc, .slice h.i m.iT.length h.ic, .int .i64 m.dT, .int .i64 m.oT, .int .i64 m.vT, .int .i64 m.aT, .slice h.u m.uT.length h.uc] #[.int .i64 x.kind, .int .i64 x.item, .int .i64 x.other, .int .i64 x.n, .int .i64 x.by_, .bool x.always, .slice A x.machines.length c] #[.slice Ap p.length cp] #[.slice Aq q.length cq] wr ∧ Below w2.heap.size w2 wr)) (fun i _ => l.length - (intOf i).toNat)
     case atStart => exact ⟨0, Nat.zero_le _, rfl, fun j hj h0 => absurd h0 (by omega), HS2.out, Below.refl _ _⟩
     case round =>
      clear HS2
      obtain ⟨k, hk, rfl, hs, hS⟩ := hrel
      by_cases hlt : k < l.length
      · obtain ⟨b, off, hA, hb, x0, x1⟩ := (HR.out.grow hS.out.2).at_ hlt
        subst hA
        obtain ⟨y, hy⟩ : ∃ y, y = l[k].1 := ⟨_, rfl⟩
        have HY := hide hy
        rw [← hy] at x0
        have HSD := hide (show OrS w #[.slice h.s m.sT.length h.sc, .slice h.f m.fT.length h.fc, .slice h.r m.rT.length h.rc, .slice h.m m.mT.length h.mc, .slice h.l m.lT.length h.lc, .slice h.i m.iT.length h.ic, .int .i64 m.dT, .int .i64 m.oT, .int .i64 m.vT, .int .i64 m.aT, .slice h.u m.uT.length h.uc] #[.int .i64 x.kind, .int .i64 x.item, .int .i64 x.other, .int .i64 x.n, .int .i64 x.by_, .bool x.always, .slice A x.machines.length c] #[.slice Ap p.length cp] #[.slice Aq q.length cq] ⟨b, off + k * 2, none⟩ y w2 wr from ⟨hS.out.1, x0, hb, hS.out.2⟩)
        have HGX := hide (show ∀ gb db : Bool, gb = goneB q x.other y → db = inDark m y → (inDark m l[k].1 && goneB q x.other l[k].1) = (db && gb) from fun gb db h1 h2 => by rw [h1, h2, hy])
        have HLT := hide hlt
        have HSS := hide hs
        have hkI : (k : Int) < (l.length : Int) := by omega
        have HSTY := hide (fun V (hb : Below w.heap.size w V) => HST.out V hb y)
        have HDRY := hide (fun V (hb : Below w.heap.size w V) => HDR.out V hb y)
        rw [state_gone] at HSTY
        obtain ⟨gb, hgb⟩ : ∃ gb, gb = goneB q x.other y := ⟨_, rfl⟩
        obtain ⟨db, hdb⟩ : ∃ db, db = inDark m y := ⟨_, rfl⟩
        rw [← hgb] at HSTY
        rw [← hdb] at HDRY
        have HGD := hide (HGX.out gb db hgb hdb)
        have hbl : b < wr.heap.size := hb
        clear hy x0 x1 hS hs hgb hdb
        go_wp2_with fail
        (go_region_held3 (fun W => ((W.cell? ⟨w.heap.size, 0, none⟩ = some (.slice h.s m.sT.length h.sc) ∧ W.cell? ⟨w.heap.size, 1, none⟩ = some (.slice h.f m.fT.length h.fc) ∧ W.cell? ⟨w.heap.size, 2, none⟩ = some (.slice h.r m.rT.length h.rc) ∧ W.cell? ⟨w.heap.size, 3, none⟩ = some (.slice h.m m.mT.length h.mc) ∧ W.cell? ⟨w.heap.size, 4, none⟩ = some (.slice h.l m.lT.length h.lc) ∧ W.cell? ⟨w.heap.size, 5, none⟩ = some (.slice h.i m.iT.length h.ic) ∧ W.cell? ⟨w.heap.size, 6, none⟩ = some (.int .i64 m.dT) ∧ W.cell? ⟨w.heap.size, 7, none⟩ = some (.int .i64 m.oT) ∧ W.cell? ⟨w.heap.size, 8, none⟩ = some (.int .i64 m.vT) ∧ W.cell? ⟨w.heap.size, 9, none⟩ = some (.int .i64 m.aT) ∧ W.cell? ⟨w.heap.size, 10, none⟩ = some (.slice h.u m.uT.length h.uc)) ∧ W.cell? ⟨w.heap.size + 1, 2, none⟩ = some (.int .i64 x.other) ∧ W.cell? ⟨w.heap.size + 1 + 1 + 1, 0, none⟩ = some (.slice Aq q.length cq) ∧ W.cell? ⟨b, off + k * 2, none⟩ = some (.int .i64 y)) ∧ OrS w #[.slice h.s m.sT.length h.sc, .slice h.f m.fT.length h.fc, .slice h.r m.rT.length h.rc, .slice h.m m.mT.length h.mc, .slice h.l m.lT.length h.lc, .slice h.i m.iT.length h.ic, .int .i64 m.dT, .int .i64 m.oT, .int .i64 m.vT, .int .i64 m.aT, .slice h.u m.uT.length h.uc] #[.int .i64 x.kind, .int .i64 x.item, .int .i64 x.other, .int .i64 x.n, .int .i64 x.by_, .bool x.always, .slice A x.machines.length c] #[.slice Ap p.length cp] #[.slice Aq q.length cq] ⟨b, off + k * 2, none⟩ y w2 W) ((with_reducible (first | (go_keep; done) | exact ⟨OrS.cells HSD.out.drew, HSD.out.drew⟩ | exact ⟨OrS.cells c7, c7⟩ | (have hH := (by assumption : _ ∧ OrS _ _ _ _ _ _ _ _ _); exact ⟨OrS.cells (OrS.drew hH.2), OrS.drew hH.2⟩)))) ((go_at_call 25; have hbw := HSD.out.drew.1.b; (with_reducible refine (HSTY.out _ hbw).mono ?_); rintro e w3 ⟨rfl, hb1⟩; have c7 := OrS.grow HSD.out.drew hb1; clear hb1)))
        have HSE := hide c7
        clear c7
        go_wp2_with fail
        cases db
        · refine wp_region_held_drew (S := (fun W => ((W.cell? ⟨w.heap.size, 0, none⟩ = some (.slice h.s m.sT.length h.sc) ∧ W.cell? ⟨w.heap.size, 1, none⟩ = some (.slice h.f m.fT.length h.fc) ∧ W.cell? ⟨w.heap.size, 2, none⟩ = some (.slice h.r m.rT.length h.rc) ∧ W.cell? ⟨w.heap.size, 3, none⟩ = some (.slice h.m m.mT.length h.mc) ∧ W.cell? ⟨w.heap.size, 4, none⟩ = some (.slice h.l m.lT.length h.lc) ∧ W.cell? ⟨w.heap.size, 5, none⟩ = some (.slice h.i m.iT.length h.ic) ∧ W.cell? ⟨w.heap.size, 6, none⟩ = some (.int .i64 m.dT) ∧ W.cell? ⟨w.heap.size, 7, none⟩ = some (.int .i64 m.oT) ∧ W.cell? ⟨w.heap.size, 8, none⟩ = some (.int .i64 m.vT) ∧ W.cell? ⟨w.heap.size, 9, none⟩ = some (.int .i64 m.aT) ∧ W.cell? ⟨w.heap.size, 10, none⟩ = some (.slice h.u m.uT.length h.uc)) ∧ W.cell? ⟨w.heap.size + 1, 2, none⟩ = some (.int .i64 x.other) ∧ W.cell? ⟨w.heap.size + 1 + 1 + 1, 0, none⟩ = some (.slice Aq q.length cq) ∧ W.cell? ⟨b, off + k * 2, none⟩ = some (.int .i64 y)) ∧ OrS w #[.slice h.s m.sT.length h.sc, .slice h.f m.fT.length h.fc, .slice h.r m.rT.length h.rc, .slice h.m m.mT.length h.mc, .slice h.l m.lT.length h.lc, .slice h.i m.iT.length h.ic, .int .i64 m.dT, .int .i64 m.oT, .int .i64 m.vT, .int .i64 m.aT, .slice h.u m.uT.length h.uc] #[.int .i64 x.kind, .int .i64 x.item, .int .i64 x.other, .int .i64 x.n, .int .i64 x.by_, .bool x.always, .slice A x.machines.length c] #[.slice Ap p.length cp] #[.slice Aq q.length cq] ⟨b, off + k * 2, none⟩ y w2 W)) (by kernel_rfl) (⟨OrS.cells HSE.out.drew, HSE.out.drew⟩) (fun hHeld => ?_)
          refine wpAnyH_take (i := 0) (oi := _) (v := ?_) rfl (by kernel_rfl) (by kernel_rfl) (by kernel_rfl) (fun _ _ _ h => h) (Or.inl ⟨by rfl, ?_⟩) hHeld ?_
          rotate_left
          · intro W hSw; (try dsimp only at hSw); go_simp; try with_reducible rfl
          simp only [Act.put, List.getElem_toArray, List.getElem_cons_zero, List.setIfInBounds_toArray, List.set_cons_zero, List.set_cons_succ]
          refine wpAnyH_take (i := 1) (oi := _) (v := ?_) rfl (by kernel_rfl) (by kernel_rfl) (by kernel_rfl) (fun _ _ _ h => h) (Or.inl ⟨by rfl, ?_⟩) hHeld ?_
          rotate_left
          · intro W hSw; (try dsimp only at hSw); go_simp; try with_reducible rfl
          simp only [Act.put, List.getElem_toArray, List.getElem_cons_succ, List.getElem_cons_zero, List.setIfInBounds_toArray, List.set_cons_zero, List.set_cons_succ]
          refine wpAnyH_take (i := 2) (oi := _) (v := ?_) rfl (by kernel_rfl) (by kernel_rfl) (by kernel_rfl) (fun _ _ _ h => h) (Or.inl ⟨by rfl, ?_⟩) hHeld ?_
          rotate_left
          · intro W hSw; (try dsimp only at hSw); go_simp; try with_reducible rfl
          simp only [Act.put, List.getElem_toArray, List.getElem_cons_succ, List.getElem_cons_zero, List.setIfInBounds_toArray, List.set_cons_zero, List.set_cons_succ]
          refine wpAnyH_take (i := 3) (oi := _) (v := ?_) rfl (by kernel_rfl) (by kernel_rfl) (by kernel_rfl) (fun _ _ _ h => h) (Or.inl ⟨by rfl, ?_⟩) hHeld ?_
          rotate_left
          · intro W hSw; (try dsimp only at hSw); go_simp; try with_reducible rfl
          simp only [Act.put, List.getElem_toArray, List.getElem_cons_succ, List.getElem_cons_zero, List.setIfInBounds_toArray, List.set_cons_zero, List.set_cons_succ]
          refine wpAnyH_take (i := 4) (oi := _) (v := ?_) rfl (by kernel_rfl) (by kernel_rfl) (by kernel_rfl) (fun _ _ _ h => h) (Or.inl ⟨by rfl, ?_⟩) hHeld ?_
          rotate_left
          · intro W hSw; (try dsimp only at hSw); go_simp; try with_reducible rfl
          simp only [Act.put, List.getElem_toArray, List.getElem_cons_succ, List.getElem_cons_zero, List.setIfInBounds_toArray, List.set_cons_zero, List.set_cons_succ]
          refine wpAnyH_take (i := 5) (oi := _) (v := ?_) rfl (by kernel_rfl) (by kernel_rfl) (by kernel_rfl) (fun _ _ _ h => h) (Or.inl ⟨by rfl, ?_⟩) hHeld ?_
          rotate_left
          · intro W hSw; (try dsimp only at hSw); go_simp; try with_reducible rfl
          simp only [Act.put, List.getElem_toArray, List.getElem_cons_succ, List.getElem_cons_zero, List.setIfInBounds_toArray, List.set_cons_zero, List.set_cons_succ]
          refine wpAnyH_ready (rs := [6]) (by kernel_rfl) (by simp) ?_
          refine AllReadyH.cons rfl (fun K hK => ?_) AllReadyH.nil
          go_simp
          go_at_call 44
          have hbw := HSE.out.drew.1.b
          (with_reducible refine (HDRY.out _ hbw).mono ?_)
          rintro e w4 ⟨rfl, hb1⟩
          have c8 := OrS.grow HSE.out.drew hb1
          clear hb1 hbw
          dsimp only
          refine hK.out _ _ (⟨OrS.cells c8, c8⟩) (fun hHeld => ?_)
          clear hK K
          refine wpAnyH_take (i := 7) (oi := _) (v := .bool false) rfl (by kernel_rfl) (by kernel_rfl) (by kernel_rfl) (fun _ _ _ h => h) (Or.inl ⟨by rfl, ?_⟩) hHeld ?_
          · intro W hSw; (try dsimp only at hSw); go_simp
          simp only [Act.put, List.getElem_toArray, List.getElem_cons_succ, List.getElem_cons_zero, List.setIfInBounds_toArray, List.set_cons_zero, List.set_cons_succ]
          refine wpAnyH_take (i := 8) (oi := _) (v := _) rfl (by kernel_rfl) (by kernel_rfl) (by kernel_rfl) (fun _ _ _ h => h) (Or.inr ⟨by rfl, rfl⟩) hHeld ?_
          simp only [Act.put, List.getElem_toArray, List.getElem_cons_succ, List.getElem_cons_zero, List.setIfInBounds_toArray, List.set_cons_zero, List.set_cons_succ]
          refine wpAnyH_take (i := 9) (oi := _) (v := _) rfl (by kernel_rfl) (by kernel_rfl) (by kernel_rfl) (fun _ _ _ h => h) (Or.inr ⟨by rfl, rfl⟩) hHeld ?_
          simp only [Act.put, List.getElem_toArray, List.getElem_cons_succ, List.getElem_cons_zero, List.setIfInBounds_toArray, List.set_cons_zero, List.set_cons_succ]
          refine wpAnyH_take (i := 10) (oi := _) (v := .bool false) rfl (by kernel_rfl) (by kernel_rfl) (by kernel_rfl) (fun _ _ _ h => h) (Or.inl ⟨by rfl, ?_⟩) hHeld ?_
          · intro W hSw; (try dsimp only at hSw); go_simp
          simp only [Act.put, List.getElem_toArray, List.getElem_cons_succ, List.getElem_cons_zero, List.setIfInBounds_toArray, List.set_cons_zero, List.set_cons_succ]
          refine wpAnyH_done (by kernel_rfl) ?_ _
          all_goals
           go_wp2_with fail
           go_roundw
           case rel => exact ⟨k + 1, HLT.out, by go_num, fun j hj h1 => by
            rcases Nat.lt_or_ge j k with h2 | h2
            · exact HSS.out j hj h2
            · obtain rfl : j = k := by omega
              rw [HGD.out]; rfl, c8.1, c8.2.2.2⟩
           case measure => have := HLT.out; simp [intOf]; omega
        · first
            | (go_region_held3 (fun W => ((W.cell? ⟨w.heap.size, 0, none⟩ = some (.slice h.s m.sT.length h.sc) ∧ W.cell? ⟨w.heap.size, 1, none⟩ = some (.slice h.f m.fT.length h.fc) ∧ W.cell? ⟨w.heap.size, 2, none⟩ = some (.slice h.r m.rT.length h.rc) ∧ W.cell? ⟨w.heap.size, 3, none⟩ = some (.slice h.m m.mT.length h.mc) ∧ W.cell? ⟨w.heap.size, 4, none⟩ = some (.slice h.l m.lT.length h.lc) ∧ W.cell? ⟨w.heap.size, 5, none⟩ = some (.slice h.i m.iT.length h.ic) ∧ W.cell? ⟨w.heap.size, 6, none⟩ = some (.int .i64 m.dT) ∧ W.cell? ⟨w.heap.size, 7, none⟩ = some (.int .i64 m.oT) ∧ W.cell? ⟨w.heap.size, 8, none⟩ = some (.int .i64 m.vT) ∧ W.cell? ⟨w.heap.size, 9, none⟩ = some (.int .i64 m.aT) ∧ W.cell? ⟨w.heap.size, 10, none⟩ = some (.slice h.u m.uT.length h.uc)) ∧ W.cell? ⟨w.heap.size + 1, 2, none⟩ = some (.int .i64 x.other) ∧ W.cell? ⟨w.heap.size + 1 + 1 + 1, 0, none⟩ = some (.slice Aq q.length cq) ∧ W.cell? ⟨b, off + k * 2, none⟩ = some (.int .i64 y)) ∧ OrS w #[.slice h.s m.sT.length h.sc, .slice h.f m.fT.length h.fc, .slice h.r m.rT.length h.rc, .slice h.m m.mT.length h.mc, .slice h.l m.lT.length h.lc, .slice h.i m.iT.length h.ic, .int .i64 m.dT, .int .i64 m.oT, .int .i64 m.vT, .int .i64 m.aT, .slice h.u m.uT.length h.uc] #[.int .i64 x.kind, .int .i64 x.item, .int .i64 x.other, .int .i64 x.n, .int .i64 x.by_, .bool x.always, .slice A x.machines.length c] #[.slice Ap p.length cp] #[.slice Aq q.length cq] ⟨b, off + k * 2, none⟩ y w2 W) ((with_reducible (first | (go_keep; done) | exact ⟨OrS.cells HSE.out.drew, HSE.out.drew⟩ | exact ⟨OrS.cells c8, c8⟩ | (have hH := (by assumption : _ ∧ OrS _ _ _ _ _ _ _ _ _); exact ⟨OrS.cells (OrS.drew hH.2), OrS.drew hH.2⟩)))) ((go_at_call 44; have hbw := HSE.out.drew.1.b; (with_reducible refine (HDRY.out _ hbw).mono ?_); rintro e w4 ⟨rfl, hb1⟩; have c8 := OrS.grow HSE.out.drew hb1; clear hb1)))
            | fail
          all_goals
           cases gb
           · go_wp2_with fail
             go_roundw
             case rel => exact ⟨k + 1, HLT.out, by go_num, fun j hj h1 => by
              rcases Nat.lt_or_ge j k with h2 | h2
              · exact HSS.out j hj h2
              · obtain rfl : j = k := by omega
                rw [HGD.out]; rfl, c8.1, c8.2.2.2⟩
             case measure => have := HLT.out; simp [intOf]; omega
           · go_wp2_with fail
             go_ret
             exact ⟨by rw [any_yes HLT.out HGD.out]; rfl, c8.1.b⟩
      · obtain rfl : k = l.length := by omega
        have HV := hide (show (((l.map (·.1)).filter (inDark m)).any (goneB q x.other)) = false from any_no.2 fun j hj => hs.out j hj hj)
        go_wp2_with fail
        go_ret
        exact ⟨by rw [HV.out]; rfl, hS.out.1.b⟩
   · have HV := hide (show (if x.kind = 4 ∧ L ≠ [] then !(((l.map (·.1)).filter (inDark m)).any (goneB q x.other)) else true) = true by
       rw [if_neg (fun e => e.2 (List.eq_nil_of_length_eq_zero (by simpa using g2)))])
     rw [HV.out]
     go_enter Tryz.func22, Tryz.ntmps22
     go_wp2_with (go_at_call 49; have hbw := HS.out.b; (with_reducible refine (HD1.out _ hbw).mono ?_); rintro e w1 ⟨rfl, hb⟩; have HS1 := hide (HS.out.grow hb); clear hb)
     go_ret
     exact ⟨rfl, HS1.out.b⟩
 · have HV := hide (show (if x.kind = 4 ∧ L ≠ [] then !(((l.map (·.1)).filter (inDark m)).any (goneB q x.other)) else true) = true by
     rw [if_neg (fun e => by rw [e.1] at g; simp at g)])
   rw [HV.out]
   go_enter Tryz.func22, Tryz.ntmps22
   go_wp2_with fail
   go_ret
   exact ⟨rfl, HS.out.b⟩
end Go.Proofs.YtlnjaemdelnceaaGreatDoor
