/- A part of the claim: see its last text. -/
import Derived.Test.YtlnjaemdelnceaaGreatDoorUK31
import Derived.BigQuiet

set_option maxRecDepth 100000
set_option maxHeartbeats 16000000
namespace Go.Proofs.YtlnjaemdelnceaaGreatDoor
open Go Go.RowKit Go.Proofs
structure TwoS (p : PlaceM) (A : Option Addr) (c : Nat) (w wr : World) : Prop where
 b : Below w.heap.size w wr
 bp : Blk wr w.heap.size 35 #[.slice A p.length c]
 br : Blk wr (w.heap.size + 1) 35 #[.slice none 0 0]
theorem TwoS.start (p : PlaceM) (A : Option Addr) (c : Nat) (w : World) : TwoS p A c w ((w.alloc (.cells #[.slice A p.length c] 35)).alloc (.cells #[.slice none 0 0] 35)) :=
 ⟨((Below.refl w.heap.size w).alloc (Nat.le_refl _) _).alloc (by simp) _, (Blk.new w _ _).alloc _, by simpa using Blk.new (w.alloc (.cells #[.slice A p.length c] 35)) 35 #[.slice none 0 0]⟩
theorem TwoS.grow {p : PlaceM} {A : Option Addr} {c : Nat} {w wr w1 : World} (s : TwoS p A c w wr) (hb : Below wr.heap.size wr w1) : TwoS p A c w w1 :=
 ⟨s.b.trans (hb.mono s.b.size), s.bp.below hb s.bp.lt, s.br.below hb s.br.lt⟩
theorem TwoS.cells {p : PlaceM} {A : Option Addr} {c : Nat} {w wr : World} (s : TwoS p A c w wr) : wr.cell? ⟨w.heap.size, 0, none⟩ = some (.slice A p.length c) ∧ wr.cell? ⟨w.heap.size + 1, 0, none⟩ = some (.slice none 0 0) ∧ wr.frozen? ⟨w.heap.size + 1, 0, none⟩ = false ∧ w.heap.size + 1 < wr.heap.size ∧ w.heap.size < wr.heap.size :=
 ⟨by simpa using s.bp.cell 0, by simpa using s.br.cell 0, s.br.frozen 0, s.br.lt, s.bp.lt⟩
theorem TwoS.done {p q : PlaceM} {A A2 : Option Addr} {c c2 : Nat} {w wr : World} (s : TwoS p A c w wr) (hp : PT wr (.slice A2 q.length c2) q) : PlaceR w q (.returned (.agg #[.slice A2 q.length c2])) (wr.setCell ⟨w.heap.size + 1, 0, none⟩ (.slice A2 q.length c2)) :=
 ⟨A2, c2, rfl, hp.keep (KT.set_ s.br (by decide) 0 _) (KT.set_ s.br (by decide) 0 _), s.b.setCell (by simp) _⟩
theorem newUnit (w : World) (mc st : Int) : Reads (w.alloc (.cells #[.int .i64 mc, .int .i64 st] 87)) (w.heap.size + 1) 2 (some ⟨w.heap.size, 0, none⟩) 1 (unitCells [(mc, st)]) :=
 ⟨rfl, fun _ => ⟨_, rfl, by simp, fun j u hu => by rw [add_none, Nat.zero_add, cell?_new]; simpa [unitCells] using hu⟩⟩
def InitI (h : MH) (m : Mod) (w : World) (i : Value) (wr : World) : Prop := ∃ (k : Nat) (A : Option Addr) (c : Nat), k ≤ m.iT.length ∧ i = .int .i64 k ∧ InitS m h w wr k A c
def InnerI (wr : World) (on : List Int) (v i : Value) (wq : World) : Prop := ∃ n : Nat, n ≤ on.length ∧ i = .int .i64 n ∧ OwnU wr.heap.size wq v (initU (on.take n)) ∧ Below wr.heap.size wr wq
theorem initial_ref (h : MH) (m : Mod) (w : World) (d : MD w w.heap.size h m) (hi : m.iT.length ≤ 1000) (ho : ∀ x ∈ m.iT, x.on.length ≤ 1000) :
    Calls Tryz.prog 29 #[.agg #[.slice h.s m.sT.length h.sc, .slice h.f m.fT.length h.fc, .slice h.r m.rT.length h.rc, .slice h.m m.mT.length h.mc, .slice h.l m.lT.length h.lc, .slice h.i m.iT.length h.ic, .int .i64 m.dT, .int .i64 m.oT, .int .i64 m.vT, .int .i64 m.aT, .slice h.u m.uT.length h.uc]] w (PlaceR w (initP m)) := by
 have H0 : InitS m h w (((w.alloc (.cells #[.slice h.s m.sT.length h.sc, .slice h.f m.fT.length h.fc, .slice h.r m.rT.length h.rc, .slice h.m m.mT.length h.mc, .slice h.l m.lT.length h.lc, .slice h.i m.iT.length h.ic, .int .i64 m.dT, .int .i64 m.oT, .int .i64 m.vT, .int .i64 m.aT, .slice h.u m.uT.length h.uc] 29)).alloc (.cells #[.slice none 0 0] 35)).alloc (.cells #[.slice none 0 0] 35)) 0 none 0 := by
  refine ⟨(((Below.refl w.heap.size w).alloc (Nat.le_refl _) _).alloc (by simp) _).alloc (by simp <;> omega) _, ((Blk.new w _ _).alloc _).alloc _, ?_, ?_, ?_⟩
  · have := (Blk.new (w.alloc (.cells #[.slice h.s m.sT.length h.sc, .slice h.f m.fT.length h.fc, .slice h.r m.rT.length h.rc, .slice h.m m.mT.length h.mc, .slice h.l m.lT.length h.lc, .slice h.i m.iT.length h.ic, .int .i64 m.dT, .int .i64 m.oT, .int .i64 m.vT, .int .i64 m.aT, .slice h.u m.uT.length h.uc] 29)) 35 #[.slice none 0 0]).alloc (.cells #[.slice none 0 0] 35)
    simpa using this
  · have := Blk.new ((w.alloc (.cells #[.slice h.s m.sT.length h.sc, .slice h.f m.fT.length h.fc, .slice h.r m.rT.length h.rc, .slice h.m m.mT.length h.mc, .slice h.l m.lT.length h.lc, .slice h.i m.iT.length h.ic, .int .i64 m.dT, .int .i64 m.oT, .int .i64 m.vT, .int .i64 m.aT, .slice h.u m.uT.length h.uc] 29)).alloc (.cells #[.slice none 0 0] 35)) 35 #[.slice none 0 0]
    simpa using this
  · exact OP.nil_ _ _
 have HO := hide ho
 have H0 := hide H0
 have HD := hide (fun W (hW : Below w.heap.size w W) => (d.grow hW).dI)
 clear ho d
 go_enter Tryz.func29, Tryz.ntmps29
 go_wp2_with fail
 go_loopw [4] (fun i wr => InitI h m w i wr) (fun i _ => m.iT.length - (intOf i).toNat)
 case atStart => exact ⟨0, none, 0, Nat.zero_le _, rfl, H0.out⟩
 case round =>
  clear H0
  obtain ⟨k, A, c, hk, rfl, hS⟩ := hrel
  have hS := hide hS
  obtain ⟨a0, a1, a2, a3, a4, a5, a6, a7, a8, a9, a10⟩ := MB.cells hS.out.bm
  have al := hS.out.bm.lt
  by_cases hlt : k < m.iT.length
  · obtain ⟨b, off, A2, c2, hA, hb, x0, x1, x2, x3, x4, x5, x6, hz, hlc, hcm, hI⟩ := (HD.out wr hS.out.b).item hlt
    have hon : m.iT[k].on.length ≤ 1000 := HO.out _ (List.getElem_mem hlt)
    rw [hA]
    rw [hA] at a5
    go_wp2_with fail
    have HE := hide (OwnU.empty (B := wr.heap.size) wr (Nat.le_refl _) (g := wr.heap.size) rfl)
    have HBE := hide ((Below.refl wr.heap.size wr).alloc (Nat.le_refl _) (.cells #[] 87))
    have HI := hide (And.intro hI (And.intro hlc hcm))
    have HX6 := hide x6
    have HM := hide hS.out.bm
    have HA := hide hA
    clear hA hI x0 x1 x2 x3 x4 x5 x6 hz hlc hcm a0 a1 a2 a3 a4 a5 a6 a7 a8 a9 a10
    rename World => W0
    go_loopw [5, 6] (fun v i wr => InnerI W0 m.iT[k].on v i wr) (fun _ i _ => m.iT[k].on.length - (intOf i).toNat)
    case atStart => exact ⟨0, Nat.zero_le _, rfl, HE.out, HBE.out⟩
    case round =>
     obtain ⟨n, hn, rfl, hO, hbq⟩ := hrel
     obtain ⟨a0, a1, a2, a3, a4, a5, a6, a7, a8, a9, a10⟩ := MB.cells (HM.out.below hbq al)
     have aq := Nat.lt_of_lt_of_le al hbq.size
     have x6 := (hbq.cell (p := ⟨b, off + k * 7 + 6, none⟩) hb).trans HX6.out
     have hbl := Nat.lt_of_lt_of_le hb hbq.size
     rw [HA.out] at a5
     have HO1 := hide hO
     have HBQ := hide hbq
     by_cases hln : n < m.iT[k].on.length
     · obtain ⟨b2, off2, hA2, hb2, y0⟩ := int_at (HI.out.1.grow hbq) hln
       subst hA2
       have hkl : (initU (m.iT[k].on.take n)).length ≤ 1000 := by rw [initU_len]; simp; omega
       have HKL := hide hkl
       have HT := hide (initU_snoc m.iT[k].on hln)
       have HO2 := hide (hO.keep (KT.alloc wr (.cells #[.int .i64 m.iT[k].on[n], .int .i64 0] 87)))
       have HNU := hide (newUnit wr m.iT[k].on[n] 0)
       clear hO hbq hkl
       obtain ⟨q, hq⟩ : ∃ q, q = initU (m.iT[k].on.take n) := ⟨_, rfl⟩
       rw [← hq] at HO1 HO2 HKL HT
       clear hq
       go_wp2_with (at_builtin; refine append_units rfl _ _ rfl W0.heap.size _ q rfl HO2.out (wr.heap.size + 1) (some ⟨wr.heap.size, 0, none⟩) 1 _ [(m.iT[k].on[n], 0)] rfl rfl HNU.out (by have := HKL.out; simp; omega) (by have := HBQ.out.size; simp; omega) ?_; intro v3 w3 ho3 hg3 _
                    have hb3 : Below W0.heap.size W0 w3 := (HBQ.out.alloc HBQ.out.size _).grown hg3 (by have := HBQ.out.size; simp; omega) (fun g hg => (HO1.out.lt g hg).1)
                    have HN := hide (And.intro ho3 hb3)
                    clear ho3 hg3 hb3)
       go_roundw
       case rel => exact ⟨n + 1, by omega, by go_num, by rw [← HT.out]; exact HN.out.1, HN.out.2⟩
       case measure => simp [intOf]; omega
     · obtain rfl : n = m.iT[k].on.length := by omega
       rw [List.take_length] at hO
       obtain ⟨A3, c3, rfl, _⟩ := hO.ut.form
       have hbx := hS.out.bx.below hbq hS.out.bx.lt
       have bx0 := hbx.cell 0
       have bxl := hbx.lt
       simp at bx0
       obtain ⟨q, hq⟩ : ∃ q, q = (initP m).take k := ⟨_, rfl⟩
       have HL := hide (show q.length = k by rw [hq]; simp [initP_len]; omega)
       have hop := hS.out.op.below hbq
       rw [← hq] at hop
       have HT := hide (initP_at m k hlt)
       rw [← hq] at HT
       have HBX := hide hbx
       have HOP := hide (hop.keep (KT.alloc wr (.cells #[.slice A3 (initU m.iT[k].on).length c3] 83)) (KT.alloc wr (.cells #[.slice A3 (initU m.iT[k].on).length c3] 83)))
       have HU := hide (hO.ut.keep (KT.alloc wr (.cells #[.slice A3 (initU m.iT[k].on).length c3] 83)))
       have HRD := hide (Reads.newRow wr #[.slice A3 (initU m.iT[k].on).length c3] 83 1 1 rfl)
       clear hO hbq hbx hop hq HO1
       go_wp2_with (at_builtin; refine append_row rfl _ _ rfl (w.heap.size + 3) (.slice A k c) q rfl HOP.out _ _ 1 (.slice A3 (initU m.iT[k].on).length c3) (initU m.iT[k].on) rfl HRD.out HU.out (by rw [HL.out]; omega) (by simp; omega) ?_; intro v3 w3 ho3 hg3 _
                    obtain ⟨A4, c4, e4, _⟩ := ho3.pt.form
                    rw [List.length_append, HL.out] at e4
                    subst e4
                    have hbx3 := (HBX.out.alloc (.cells #[.slice A3 (initU m.iT[k].on).length c3] 83)).grown hg3 (fun e => by have := (HOP.out.lt _ e.symm).1; omega)
                    have b30 := hbx3.cell 0
                    have b3f := hbx3.frozen 0
                    have b3l := hbx3.lt
                    simp at b30
                    have HN := hide (hS.out.next (W := W0) (Below.refl _ _) (show Below W0.drew.heap.size W0.drew wr from ⟨HBQ.out.os, HBQ.out.tape, HBQ.out.output, HBQ.out.size, HBQ.out.block⟩) hg3 HOP.out (by rw [← HT.out]; exact ho3))
                    clear hbx3 hg3 ho3)
       go_roundw
       case rel => exact ⟨k + 1, A4, c4, by omega, by go_num, HN.out⟩
       case measure => simp [intOf]; omega
  · obtain rfl : k = m.iT.length := by omega
    have x0 := hS.out.bx.cell 0
    have xl := hS.out.bx.lt
    have r0 := hS.out.br.cell 0
    have rf := hS.out.br.frozen 0
    have rl := hS.out.br.lt
    simp at x0 r0
    go_wp2_with fail
    refine bodyPost_ret (v := .agg #[.slice A m.iT.length c]) (by simp [results, Tryz.results29, go_sem, *]) rfl ?_
    have hop := hS.out.op.pt
    rw [List.take_of_length_le (by rw [initP_len]; exact Nat.le_refl _)] at hop
    refine ⟨A, c, by rw [initP_len], by rw [initP_len]; exact hop.keep (KT.set_ hS.out.br (by decide) 0 _) (KT.set_ hS.out.br (by decide) 0 _), hS.out.b.setCell (by simp) _⟩
end Go.Proofs.YtlnjaemdelnceaaGreatDoor
