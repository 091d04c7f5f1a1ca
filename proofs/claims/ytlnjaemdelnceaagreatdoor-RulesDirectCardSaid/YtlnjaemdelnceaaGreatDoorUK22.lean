/- A part of the claim: see its last text. -/
import Derived.Test.YtlnjaemdelnceaaGreatDoorUK16
import Derived.Test.YtlnjaemdelnceaaGreatDoorUK21
import Derived.Test.YtlnjaemdelnceaaGreatDoorUK15
import Derived.Test.YtlnjaemdelnceaaGreatDoorUOpens14Z
import Derived.Laws.ResultCell
import Derived.Laws.Rows
import Derived.Laws.CopyOwn
import Derived.WalkKit
import Derived.Test.YtlnjaemdelnceaaGreatDoorUK02

set_option maxRecDepth 100000
set_option maxHeartbeats 16000000
namespace Go.Proofs.YtlnjaemdelnceaaGreatDoor
open Go Go.RowKit Go.Proofs
def withR (m : Mod) (x : RuleM) : Mod := ⟨m.sT, m.fT, m.rT, m.mT, m.lT, m.iT, m.dT, m.oT, m.vT, m.aT, [x]⟩
def rtextD (m : Mod) (x : RuleM) : ByteArray := textB (10 + x.kind) ⟨#[]⟩ (ruleDl m x).refs (numsR x) x.by_ x.always
def rtextB (m : Mod) (x : RuleM) : ByteArray := ⟨(Lib.trimSuffix (rtextD m x).data.toList [59]).toArray⟩
theorem OutD.at_last {w : World} {B : Nat} {v : Value} {L : List DV} {l : List Decl} {d : Decl} (h : OutD B w v L) (e : L.map (·.1) = l ++ [d]) :
    ∃ A c q b off ra rc na nc, v = .slice A (q + 1) c ∧ q + 1 = L.length ∧ A = some ⟨b, off, none⟩ ∧ b < w.heap.size ∧ w.cell? ⟨b, off + q * 6, none⟩ = some (.int .i64 d.kind) ∧ w.cell? ⟨b, off + q * 6 + 1, none⟩ = some (.string d.name) ∧ w.cell? ⟨b, off + q * 6 + 2, none⟩ = some (.slice ra d.refs.length rc) ∧ w.cell? ⟨b, off + q * 6 + 3, none⟩ = some (.slice na d.nums.length nc) ∧ w.cell? ⟨b, off + q * 6 + 4, none⟩ = some (.int .i64 d.by_) ∧ w.cell? ⟨b, off + q * 6 + 5, none⟩ = some (.bool d.always) ∧
     d.refs.length ≤ rc ∧ Strs w w.heap.size ra d.refs ∧ Ints w w.heap.size na d.nums ∧ Fine d := by
 have hlen : L.length = l.length + 1 := by have := congrArg List.length e; simpa using this
 obtain ⟨A, c, hv, _⟩ := h.form
 rw [hv] at h
 obtain ⟨hr, hx⟩ := h.row
 obtain ⟨q, hq⟩ : ∃ q, L.length = q + 1 := ⟨l.length, hlen⟩
 have hql : q < L.length := by omega
 have hd : L[q].1 = d := by
  have h1 : (L.map (·.1))[q]'(by simpa using hql) = L[q].1 := by simp
  rw [← h1]
  have hq2 : q = l.length := by omega
  subst hq2
  simp [e]
 obtain ⟨ra, rc, na, nc, e1, e2, k1, k2, k3, k4, k5⟩ := hx L[q] (List.getElem_mem _)
 obtain ⟨b, off, ea, hb, hc⟩ := Reads.form hr (by rw [cellsD_len]; omega)
 have hcd : cellsD L[q] = [.int .i64 d.kind, .string d.name, L[q].2.1, L[q].2.2, .int .i64 d.by_, .bool d.always] := by unfold cellsD; rw [hd]
 have hat : ∀ i, i < 6 → ∀ u, (cellsD L[q])[i]? = some u → w.cell? ⟨b, off + (q * 6 + i), none⟩ = some u := fun i hi u hu => hc _ u (by rw [cellsD_at L q i hql hi]; exact hu)
 rw [hcd] at hat
 rw [hd] at e1 e2 k1 k2 k3 k4 k5
 refine ⟨A, c, q, b, off, ra, rc, na, nc, by rw [hv, hq], hq.symm, ea, hb, hat 0 (by omega) _ rfl, hat 1 (by omega) _ rfl, ?_, ?_, hat 4 (by omega) _ rfl, hat 5 (by omega) _ rfl, k1, k3, k4, k5⟩
 · exact hat 2 (by omega) _ (by rw [← e1]; rfl)
 · exact hat 3 (by omega) _ (by rw [← e2]; rfl)
theorem declsM_len {m : Mod} (hv : validM m = true) : (declsM m).length ≤ 200 := by
 have h1 : (failD m).length ≤ 1 := by unfold failD; split <;> simp
 obtain ⟨v1, v2, v3, _⟩ := valid_parts hv
 simp only [siteB, exI, Bool.and_eq_true, decide_eq_true_eq] at v1
 simp [declsM, dec7, dec6, dec5, dec4, dec3, dec2, dec1]
 omega
theorem rows1 {w : World} {B g : Nat} {x : RuleM} {A : Option Addr} {c : Nat} (h : Blk w g 32 #[.int .i64 x.kind, .int .i64 x.item, .int .i64 x.other, .int .i64 x.n, .int .i64 x.by_, .bool x.always, .slice A x.machines.length c]) (hB : g < B) (h1 : x.machines.length ≤ c) (h2 : c ≤ 9223372036854775807) (hI : Ints w B A x.machines) : Rows encRule 7 w B (some ⟨g, 0, none⟩) [x] := by
 intro i hi
 obtain rfl : i = 0 := by simp at hi; omega
 exact ⟨g, 0, (#[.int .i64 x.kind, .int .i64 x.item, .int .i64 x.other, .int .i64 x.n, .int .i64 x.by_, .bool x.always, .slice A x.machines.length c] : Array Value).toList, rfl, hB, rfl, ⟨A, c, rfl, h1, h2, hI⟩, fun j u hu => by simp only [Nat.zero_mul, Nat.zero_add]; rw [h.cell j]; simpa using hu⟩
theorem rtext_yes (h : MH) (m : Mod) (x : RuleM) (A : Option Addr) (c : Nat) (w : World) (d : MD w w.heap.size h m) (k1 : m.rT.length ≤ h.rc) (k2 : m.mT.length ≤ h.mc) (k3 : m.lT.length ≤ h.lc) (ha : Asc w) (hpw : Pow w)
    (hI : Ints w w.heap.size A x.machines) (hc1 : x.machines.length ≤ c) (hc2 : c ≤ 9223372036854775807) (hv : validM m = true) (hv2 : validM (withR m x) = true) (hT : (rtextD m x).size ≤ 9223372036854775807) :
    Calls Tryz.prog 30 #[.agg #[.slice h.s m.sT.length h.sc, .slice h.f m.fT.length h.fc, .slice h.r m.rT.length h.rc, .slice h.m m.mT.length h.mc, .slice h.l m.lT.length h.lc, .slice h.i m.iT.length h.ic, .int .i64 m.dT, .int .i64 m.oT, .int .i64 m.vT, .int .i64 m.aT, .slice h.u m.uT.length h.uc], .agg #[.int .i64 x.kind, .int .i64 x.item, .int .i64 x.other, .int .i64 x.n, .int .i64 x.by_, .bool x.always, .slice A x.machines.length c]] w (AnsR w (.string (rtextB m x))) := by
 have hb0 : Below w.heap.size w ((w.alloc (.cells #[.slice h.s m.sT.length h.sc, .slice h.f m.fT.length h.fc, .slice h.r m.rT.length h.rc, .slice h.m m.mT.length h.mc, .slice h.l m.lT.length h.lc, .slice h.i m.iT.length h.ic, .int .i64 m.dT, .int .i64 m.oT, .int .i64 m.vT, .int .i64 m.aT, .slice h.u m.uT.length h.uc] 29)).alloc (.cells #[.int .i64 x.kind, .int .i64 x.item, .int .i64 x.other, .int .i64 x.n, .int .i64 x.by_, .bool x.always, .slice A x.machines.length c] 32)) := ((Below.refl _ _).alloc (Nat.le_refl _) _).alloc (by simp) _
 have hm0 : Blk ((w.alloc (.cells #[.slice h.s m.sT.length h.sc, .slice h.f m.fT.length h.fc, .slice h.r m.rT.length h.rc, .slice h.m m.mT.length h.mc, .slice h.l m.lT.length h.lc, .slice h.i m.iT.length h.ic, .int .i64 m.dT, .int .i64 m.oT, .int .i64 m.vT, .int .i64 m.aT, .slice h.u m.uT.length h.uc] 29)).alloc (.cells #[.int .i64 x.kind, .int .i64 x.item, .int .i64 x.other, .int .i64 x.n, .int .i64 x.by_, .bool x.always, .slice A x.machines.length c] 32)) w.heap.size 29 #[.slice h.s m.sT.length h.sc, .slice h.f m.fT.length h.fc, .slice h.r m.rT.length h.rc, .slice h.m m.mT.length h.mc, .slice h.l m.lT.length h.lc, .slice h.i m.iT.length h.ic, .int .i64 m.dT, .int .i64 m.oT, .int .i64 m.vT, .int .i64 m.aT, .slice h.u m.uT.length h.uc] := (Blk.new w _ _).alloc _
 have hx0 : Blk ((w.alloc (.cells #[.slice h.s m.sT.length h.sc, .slice h.f m.fT.length h.fc, .slice h.r m.rT.length h.rc, .slice h.m m.mT.length h.mc, .slice h.l m.lT.length h.lc, .slice h.i m.iT.length h.ic, .int .i64 m.dT, .int .i64 m.oT, .int .i64 m.vT, .int .i64 m.aT, .slice h.u m.uT.length h.uc] 29)).alloc (.cells #[.int .i64 x.kind, .int .i64 x.item, .int .i64 x.other, .int .i64 x.n, .int .i64 x.by_, .bool x.always, .slice A x.machines.length c] 32)) (w.heap.size + 1) 32 #[.int .i64 x.kind, .int .i64 x.item, .int .i64 x.other, .int .i64 x.n, .int .i64 x.by_, .bool x.always, .slice A x.machines.length c] := by
  have := Blk.new (w.alloc (.cells #[.slice h.s m.sT.length h.sc, .slice h.f m.fT.length h.fc, .slice h.r m.rT.length h.rc, .slice h.m m.mT.length h.mc, .slice h.l m.lT.length h.lc, .slice h.i m.iT.length h.ic, .int .i64 m.dT, .int .i64 m.oT, .int .i64 m.vT, .int .i64 m.aT, .slice h.u m.uT.length h.uc] 29)) 32 #[.int .i64 x.kind, .int .i64 x.item, .int .i64 x.other, .int .i64 x.n, .int .i64 x.by_, .bool x.always, .slice A x.machines.length c]
  simpa using this
 have HV := hide (validM_prog h m _ (d.grow hb0) k1 k2 k3 (ha.below (Nat.le_refl _) hb0) hv)
 have HD := hide (fun W (hW : Below w.heap.size w W) => And.intro (d.grow hW) (And.intro (hI.grow hW) (And.intro (ha.below (Nat.le_refl _) hW) (hpw.below (Nat.le_refl _) hW))))
 have HDC := hide (fun W g (hd : MD W W.heap.size { h with u := some ⟨g, 0, none⟩, uc := 1 } (withR m x)) (hA : Asc W) => decls19 { h with u := some ⟨g, 0, none⟩, uc := 1 } (withR m x) W hd k1 k2 k3 hA hv2)
 have HK := hide (And.intro hc1 hc2)
 have HV2 := hide hv2
 have HT := hide hT
 have HBM := hide (And.intro hb0 (And.intro hm0 hx0))
 clear hb0 hm0 hx0 d hI ha hpw hv hv2 hc1 hc2 k1 k2 k3 hT
 go_enter Tryz.func30, Tryz.ntmps30
 go_upto_region 4 with (first
  | (go_at_call 57; refine HV.out.mono ?_; rintro e w3 ⟨rfl, hb3⟩
     have hm3 := HBM.out.2.1.below hb3 HBM.out.2.1.lt
     have hx3 := HBM.out.2.2.below hb3 HBM.out.2.2.lt
     obtain ⟨r0, r1, r2, r3, r4, r5, r6⟩ : w3.cell? ⟨w.heap.size + 1, 0, none⟩ = some (.int .i64 x.kind) ∧ w3.cell? ⟨w.heap.size + 1, 1, none⟩ = some (.int .i64 x.item) ∧ w3.cell? ⟨w.heap.size + 1, 2, none⟩ = some (.int .i64 x.other) ∧ w3.cell? ⟨w.heap.size + 1, 3, none⟩ = some (.int .i64 x.n) ∧ w3.cell? ⟨w.heap.size + 1, 4, none⟩ = some (.int .i64 x.by_) ∧ w3.cell? ⟨w.heap.size + 1, 5, none⟩ = some (.bool x.always) ∧ w3.cell? ⟨w.heap.size + 1, 6, none⟩ = some (.slice A x.machines.length c) := ⟨hx3.cell 0, hx3.cell 1, hx3.cell 2, hx3.cell 3, hx3.cell 4, hx3.cell 5, hx3.cell 6⟩
     have ml3 := hm3.lt
     have xl3 := hx3.lt
     have mf3 := hm3.frozen 10
     have m103 : w3.cell? ⟨w.heap.size, 10, none⟩ = some (.slice h.u m.uT.length h.uc) := hm3.cell 10
     have HM3 := hide hm3
     have HX3 := hide hx3
     have HB3 := hide (HBM.out.1.trans (hb3.mono HBM.out.1.size))
     clear hb3 hm3 hx3))
 have hsz : (w3.setCell ⟨w.heap.size, 10, none⟩ (.slice (some ⟨w3.heap.size, 0, none⟩) 1 1)).heap.size = w3.heap.size := by simp
 have hb4 : Below w.heap.size w ((w3.setCell ⟨w.heap.size, 10, none⟩ (.slice (some ⟨w3.heap.size, 0, none⟩) 1 1)).alloc (.cells #[.int .i64 x.kind, .int .i64 x.item, .int .i64 x.other, .int .i64 x.n, .int .i64 x.by_, .bool x.always, .slice A x.machines.length c] 32)) := (HB3.out.setCell (Nat.le_refl _) _).alloc (by rw [hsz]; exact HB3.out.size) _
 have hm4 : Blk ((w3.setCell ⟨w.heap.size, 10, none⟩ (.slice (some ⟨w3.heap.size, 0, none⟩) 1 1)).alloc (.cells #[.int .i64 x.kind, .int .i64 x.item, .int .i64 x.other, .int .i64 x.n, .int .i64 x.by_, .bool x.always, .slice A x.machines.length c] 32)) w.heap.size 29 #[.slice h.s m.sT.length h.sc, .slice h.f m.fT.length h.fc, .slice h.r m.rT.length h.rc, .slice h.m m.mT.length h.mc, .slice h.l m.lT.length h.lc, .slice h.i m.iT.length h.ic, .int .i64 m.dT, .int .i64 m.oT, .int .i64 m.vT, .int .i64 m.aT, .slice (some ⟨w3.heap.size, 0, none⟩) 1 1] := (HM3.out.set_ 10 (.slice (some ⟨w3.heap.size, 0, none⟩) 1 1)).alloc _
 have hx4 : Blk ((w3.setCell ⟨w.heap.size, 10, none⟩ (.slice (some ⟨w3.heap.size, 0, none⟩) 1 1)).alloc (.cells #[.int .i64 x.kind, .int .i64 x.item, .int .i64 x.other, .int .i64 x.n, .int .i64 x.by_, .bool x.always, .slice A x.machines.length c] 32)) w3.heap.size 32 #[.int .i64 x.kind, .int .i64 x.item, .int .i64 x.other, .int .i64 x.n, .int .i64 x.by_, .bool x.always, .slice A x.machines.length c] := by
  have := Blk.new (w3.setCell ⟨w.heap.size, 10, none⟩ (.slice (some ⟨w3.heap.size, 0, none⟩) 1 1)) 32 #[.int .i64 x.kind, .int .i64 x.item, .int .i64 x.other, .int .i64 x.n, .int .i64 x.by_, .bool x.always, .slice A x.machines.length c]
  rwa [hsz] at this
 have HX4 := hide ((HX3.out.far (p := ⟨w.heap.size, 10, none⟩) (by simp) (.slice (some ⟨w3.heap.size, 0, none⟩) 1 1)).alloc (.cells #[.int .i64 x.kind, .int .i64 x.item, .int .i64 x.other, .int .i64 x.n, .int .i64 x.by_, .bool x.always, .slice A x.machines.length c] 32))
 obtain ⟨w4, hw4⟩ : ∃ w4, w4 = ((w3.setCell ⟨w.heap.size, 10, none⟩ (.slice (some ⟨w3.heap.size, 0, none⟩) 1 1)).alloc (.cells #[.int .i64 x.kind, .int .i64 x.item, .int .i64 x.other, .int .i64 x.n, .int .i64 x.by_, .bool x.always, .slice A x.machines.length c] 32)) := ⟨_, rfl⟩
 rw [← hw4] at hb4 hm4 hx4 HX4 ⊢
 have hmd : MD w4 w4.heap.size { h with u := some ⟨w3.heap.size, 0, none⟩, uc := 1 } (withR m x) :=
  { (HD.out w4 hb4).1 with
   dU := rows1 hx4 hx4.lt HK.out.1 HK.out.2 (HD.out w4 hb4).2.1
   ul := by show (1 : Nat) ≤ _; omega }
 obtain ⟨b0, b1, b2, b3, b4, b5, b6, b7, b8, b9, b10⟩ : w4.cell? ⟨w.heap.size, 0, none⟩ = some (.slice h.s m.sT.length h.sc) ∧ w4.cell? ⟨w.heap.size, 1, none⟩ = some (.slice h.f m.fT.length h.fc) ∧ w4.cell? ⟨w.heap.size, 2, none⟩ = some (.slice h.r m.rT.length h.rc) ∧ w4.cell? ⟨w.heap.size, 3, none⟩ = some (.slice h.m m.mT.length h.mc) ∧ w4.cell? ⟨w.heap.size, 4, none⟩ = some (.slice h.l m.lT.length h.lc) ∧ w4.cell? ⟨w.heap.size, 5, none⟩ = some (.slice h.i m.iT.length h.ic) ∧ w4.cell? ⟨w.heap.size, 6, none⟩ = some (.int .i64 m.dT) ∧ w4.cell? ⟨w.heap.size, 7, none⟩ = some (.int .i64 m.oT) ∧ w4.cell? ⟨w.heap.size, 8, none⟩ = some (.int .i64 m.vT) ∧ w4.cell? ⟨w.heap.size, 9, none⟩ = some (.int .i64 m.aT) ∧ w4.cell? ⟨w.heap.size, 10, none⟩ = some (.slice (some ⟨w3.heap.size, 0, none⟩) 1 1) := ⟨hm4.cell 0, hm4.cell 1, hm4.cell 2, hm4.cell 3, hm4.cell 4, hm4.cell 5, hm4.cell 6, hm4.cell 7, hm4.cell 8, hm4.cell 9, hm4.cell 10⟩
 have ml4 := hm4.lt
 have HDc := hide (HDC.out w4 w3.heap.size hmd (HD.out w4 hb4).2.2.1)
 dsimp only [withR] at HDc
 have HB4 := hide hb4
 clear hw4 hsz hb4 hm4 hx4 hmd r0 r1 r2 r3 r4 r5 r6 ml3 xl3 mf3 m103
 go_upto_region 7 with (first
  | (go_at_call 58
     go_loud (
     refine HDc.out.mono ?_
     rintro e w5 ⟨v5, L, rfl, ho, hL, hb5⟩
     obtain ⟨AL, cL, q, bL, oL, ra, rc, na, nc, rfl, hq, rfl, hbl, y0, y1, y2, y3, y4, y5, k1, k3, k4, k5⟩ := ho.at_last (l := dec7 (withR m x)) (d := ruleDl (withR m x) x) hL
     have HB5 := hide (HB4.out.trans (hb5.mono HB4.out.size))
     have HTX := hide (text_prog (10 + x.kind) ⟨#[]⟩ ra (ruleDl (withR m x) x).refs rc na (ruleDl (withR m x) x).nums nc x.by_ x.always w5 (HD.out w5 HB5.out).2.2.1 (HD.out w5 HB5.out).2.2.2 (by decide) k5.2.1 k5.2.2.1 k5.2.2.2 k1 k3 k4)
     have HQL := hide (show q ≤ 1000 by have h1 : (L.map (·.1)).length = (declsM (withR m x)).length := congrArg List.length hL; have h2 := declsM_len (m := withR m x) HV2.out; rw [List.length_map] at h1; omega)
     clear ho hL hb5 hq k1 k3 k4 k5)))
 have hqI : ((q : Int) + 1 == 0) = false := by simp; omega
 have hw1 : IntKind.i64.wrap (q : Int) = q := IntWalk.i64_in _ (by have := HQL.out; omega)
 have HTT := hide (show textB (10 + x.kind) ⟨#[]⟩ (ruleDl (withR m x) x).refs (ruleDl (withR m x) x).nums x.by_ x.always = rtextD m x from rfl)
 rw [HTT.out] at HTX
 go_wp2_with (first
  | (go_at_call 60; refine HTX.out.mono ?_; rintro e w6 ⟨rfl, hb6⟩; have HB6 := hide (HB5.out.trans (hb6.mono HB5.out.size)); clear hb6)
  | (go_at_call 59; refine (Tryz.strings_TrimSuffix (rtextD m x) ⟨#[59]⟩ _ HT.out).mono ?_; rintro e w7 ⟨rfl, rfl⟩))
 go_ret
 exact ⟨rfl, HB6.out⟩
def m14 : Mod := ⟨[(⟨#[97]⟩ : ByteArray), (⟨#[98]⟩ : ByteArray)], [(⟨#[102]⟩ : ByteArray)], [⟨(⟨#[114]⟩ : ByteArray), 1, 1⟩], [⟨(⟨#[109, 49]⟩ : ByteArray), 1, 10⟩, ⟨(⟨#[109, 50]⟩ : ByteArray), 1, 5⟩], [⟨1, 2, 3⟩], [], 0, 0, 0, 0, []⟩
def m15 : Mod := ⟨m14.sT, m14.fT, m14.rT, m14.mT, m14.lT, [⟨(⟨#[100, 98]⟩ : ByteArray), 0, 1, 4, 2, 1, [2]⟩], 1, 1, 0, 0, []⟩
def r22 : RuleM := ⟨0, 1, 0, 0, 0, false, []⟩
def m22 : Mod := ⟨m15.sT, m15.fT, m15.rT, m15.mT, m15.lT, m15.iT, 1, 1, 0, 1, [r22]⟩
theorem Reads.ofBlk2 {w : World} {B g n size : Nat} {t : TypeId} {cs : Array Value} (h : Blk w g t cs) (hB : g < B) (hn : cs.size = n * size) : Reads w B size (some ⟨g, 0, none⟩) n cs.toList :=
 ⟨by simpa using hn, fun _ => ⟨_, rfl, hB, fun j u hu => by
   rw [add_none, Nat.zero_add, h.cell j]; simpa using hu⟩⟩
theorem rows_one {α : Type} {E : RelK α} {k : Nat} {w : World} {B g : Nat} {t : TypeId} {cs : Array Value} {x : α} (h : Blk w g t cs) (hB : g < B) (hk : cs.size = k) (hE : E.R w B x cs.toList) : Rows E k w B (some ⟨g, 0, none⟩) [x] := by
 intro i hi
 obtain rfl : i = 0 := by simp at hi; omega
 exact ⟨g, 0, cs.toList, rfl, hB, by simpa using hk, hE, fun j u hu => by simp only [Nat.zero_mul, Nat.zero_add]; rw [h.cell j]; simpa using hu⟩
theorem rows_two {α : Type} {E : RelK α} {k : Nat} {w : World} {B g : Nat} {t : TypeId} {cs : Array Value} {x y : α} {vx vy : List Value} (h : Blk w g t cs) (hB : g < B) (hc : cs.toList = vx ++ vy) (hx : vx.length = k) (hy : vy.length = k) (ex : E.R w B x vx) (ey : E.R w B y vy) : Rows E k w B (some ⟨g, 0, none⟩) [x, y] := by
 intro i hi
 have hcell : ∀ j u, (vx ++ vy)[j]? = some u → w.cell? ⟨g, j, none⟩ = some u := fun j u hu => by
  rw [h.cell j, ← hu, ← hc]; simp
 have hi2 : i < 2 := hi
 rcases i with _ | _ | i
 · exact ⟨g, 0, vx, rfl, hB, hx, ex, fun j u hu => by
     have hj : j < vx.length := (List.getElem?_eq_some_iff.1 hu).1
     have := hcell j u (by rw [List.getElem?_append_left hj]; exact hu)
     simpa using this⟩
 · exact ⟨g, 0, vy, rfl, hB, hy, ey, fun j u hu => by
     have := hcell (k + j) u (by rw [List.getElem?_append_right (by omega), hx, Nat.add_sub_cancel_left]; exact hu)
     simpa using this⟩
 · omega
def cells22 (h : MH) (m : Mod) : Array Value := #[.slice h.s m.sT.length h.sc, .slice h.f m.fT.length h.fc, .slice h.r m.rT.length h.rc, .slice h.m m.mT.length h.mc, .slice h.l m.lT.length h.lc, .slice h.i m.iT.length h.ic, .int .i64 m.dT, .int .i64 m.oT, .int .i64 m.vT, .int .i64 m.aT, .slice h.u m.uT.length h.uc]
theorem cells22_one (h : MH) (m : Mod) : (cells22 h m).all (·.oneCell') = true := by simp [cells22, Value.oneCell']
def h14 (n : Nat) : MH := ⟨some ⟨n + 1, 0, none⟩, 2, some ⟨n + 1 + 1, 0, none⟩, 1, some ⟨n + 1 + 1 + 1, 0, none⟩, 1, some ⟨n + 1 + 1 + 1 + 1, 0, none⟩, 2, some ⟨n + 1 + 1 + 1 + 1 + 1, 0, none⟩, 1, none, 0, none, 0⟩
structure S14 (n : Nat) (W : World) : Prop where
 b1 : Blk W (n + 1) 9 #[.string (⟨#[97]⟩ : ByteArray), .string (⟨#[98]⟩ : ByteArray)]
 b2 : Blk W (n + 1 + 1) 9 #[.string (⟨#[102]⟩ : ByteArray)]
 b3 : Blk W (n + 1 + 1 + 1) 104 #[.string (⟨#[114]⟩ : ByteArray), .int .i64 1, .int .i64 1]
 b4 : Blk W (n + 1 + 1 + 1 + 1) 106 #[.string (⟨#[109, 49]⟩ : ByteArray), .int .i64 1, .int .i64 10, .string (⟨#[109, 50]⟩ : ByteArray), .int .i64 1, .int .i64 5]
 b5 : Blk W (n + 1 + 1 + 1 + 1 + 1) 123 #[.int .i64 1, .int .i64 2, .int .i64 3]
theorem S14.md {n : Nat} {W : World} (x : S14 n W) : MD W W.heap.size (h14 n) m14 where
 dS := Reads.ofBlk2 x.b1 x.b1.lt rfl
 dF := Reads.ofBlk2 x.b2 x.b2.lt rfl
 dR := rows_one x.b3 x.b3.lt rfl ⟨rfl, by decide⟩
 dM := rows_two x.b4 x.b4.lt (vx := [.string (⟨#[109, 49]⟩ : ByteArray), .int .i64 1, .int .i64 10]) (vy := [.string (⟨#[109, 50]⟩ : ByteArray), .int .i64 1, .int .i64 5]) rfl rfl rfl ⟨rfl, by decide⟩ ⟨rfl, by decide⟩
 dL := rows_one x.b5 x.b5.lt rfl rfl
 dI := Rows.nil_
 dU := Rows.nil_
 sl := by decide
 fl := by decide
 rl := by decide
 ml := by decide
 ll := by decide
 il := by decide
 ul := by decide
 sf := by decide
 ff := by decide
theorem S14.grow {n : Nat} {W W2 : World} (x : S14 n W) (hb : Below W.heap.size W W2) : S14 n W2 := ⟨x.b1.below hb x.b1.lt, x.b2.below hb x.b2.lt, x.b3.below hb x.b3.lt, x.b4.below hb x.b4.lt, x.b5.below hb x.b5.lt⟩
theorem Blk.setRow_far {w : World} {g b : Nat} {t : TypeId} {cs cs2 : Array Value} (h : Blk w g t cs) (hne : g ≠ b) : Blk (w.setRow b cs2) g t cs := (setRow_other w b g cs2 hne).trans h
theorem S14.setRow {n b : Nat} {W : World} {cs : Array Value} (x : S14 n W) (hb : b ≤ n) : S14 n (W.setRow b cs) := ⟨x.b1.setRow_far (by omega), x.b2.setRow_far (by omega), x.b3.setRow_far (by omega), x.b4.setRow_far (by omega), x.b5.setRow_far (by omega)⟩
theorem new_blk (w : World) (t : TypeId) (cs : Array Value) {g : Nat} (h : g = w.heap.size) : Blk (w.alloc (.cells cs t)) g t cs := by subst h; exact Blk.new w t cs
structure W14 (w W : World) : Prop where
 b0 : Blk W w.heap.size 29 (cells22 (h14 w.heap.size) m14)
 s : S14 w.heap.size W
 bb : Below w.heap.size w W
def Ex14R (w : World) (e : Ending) (w' : World) : Prop := e = .returned (.agg (cells22 (h14 w.heap.size) m14)) ∧ W14 w w'
theorem ex14_end {w W : World} {T : Array Value} (x : W14 w W) (h0 : T.getD 0 undef = .pointer (some ⟨w.heap.size, 0, none⟩)) :
    bodyPost Tryz.prog Tryz.f56 (Ex14R w) Exit.ret { tmps := T, defers := [] } W :=
 bodyPost_ret (v := .agg (cells22 (h14 w.heap.size) m14)) (w := W) (results_cell_row (P := Tryz.prog) rfl T W w.heap.size 29 _ (0, 0) _ h0 x.b0 Tryz.underlying29 rfl (by kernel_rfl)) rfl ⟨rfl, x⟩
theorem example14 (w : World) : Calls Tryz.prog 56 #[] w (Ex14R w) := by
 go_enter Tryz.func56, Tryz.ntmps56
 go_wp2_with fail
 refine ex14_end ⟨?_, ⟨?_, ?_, ?_, ?_, ?_⟩, ?_⟩ rfl
 all_goals (try (repeat (first | (refine new_blk _ _ _ ?_; (simp; done)) | (with_reducible refine Blk.alloc ?_ _) | exact Below.refl _ _ | (with_reducible refine Below.alloc ?_ (by simp <;> omega) _))))
def h15 (n r : Nat) : MH := { h14 n with i := some ⟨r + 1, 0, none⟩, ic := 1 }
structure X15 (n r : Nat) (W : World) : Prop where
 s : S14 n W
 o : Blk W r 3 #[.int .i64 2]
 i : Blk W (r + 1) 81 #[.string (⟨#[100, 98]⟩ : ByteArray), .int .i64 0, .int .i64 1, .int .i64 4, .int .i64 2, .int .i64 1, .slice (some ⟨r, 0, none⟩) 1 1]
theorem X15.md {n r : Nat} {W : World} (x : X15 n r W) : MD W W.heap.size (h15 n r) m15 :=
 { x.s.md with
  dI := rows_one x.i x.i.lt rfl ⟨_, 1, rfl, by decide, by decide, by decide, Reads.ofBlk2 x.o x.o.lt rfl⟩
  il := by decide }
theorem X15.grow {n r : Nat} {W W2 : World} (x : X15 n r W) (hb : Below W.heap.size W W2) : X15 n r W2 := ⟨x.s.grow hb, x.o.below hb x.o.lt, x.i.below hb x.i.lt⟩
def Ex15R (w : World) (e : Ending) (w' : World) : Prop := ∃ n r, e = .returned (.agg (cells22 (h15 n r) m15)) ∧ X15 n r w' ∧ Below w.heap.size w w'
theorem ex15_end {w W : World} {n r : Nat} {T : Array Value} (b0 : Blk W w.heap.size 29 (cells22 (h15 n r) m15)) (x : X15 n r W) (bb : Below w.heap.size w W) (h0 : T.getD 0 undef = .pointer (some ⟨w.heap.size, 0, none⟩)) :
    bodyPost Tryz.prog Tryz.f28 (Ex15R w) Exit.ret { tmps := T, defers := [] } W :=
 bodyPost_ret (v := .agg (cells22 (h15 n r) m15)) (w := W) (results_cell_row (P := Tryz.prog) rfl T W w.heap.size 29 _ (0, 0) _ h0 b0 Tryz.underlying29 rfl (by kernel_rfl)) rfl ⟨n, r, rfl, x, bb⟩
def z29 : Array Value := #[.slice none 0 0, .slice none 0 0, .slice none 0 0, .slice none 0 0, .slice none 0 0, .slice none 0 0, .int .i64 0, .int .i64 0, .int .i64 0, .int .i64 0, .slice none 0 0]
def W3 (w1 : World) (n : Nat) : World := ((w1.alloc (.cells (cells22 (h15 n (w1.heap.size + 1)) m15) 29)).alloc (.cells #[.int .i64 2] 3)).alloc (.cells #[.string (⟨#[100, 98]⟩ : ByteArray), .int .i64 0, .int .i64 1, .int .i64 4, .int .i64 2, .int .i64 1, .slice (some ⟨w1.heap.size + 1, 0, none⟩) 1 1] 81)
theorem example15 (w : World) : Calls Tryz.prog 28 #[] w (Ex15R w) := by
 have HB := hide ((Below.refl w.heap.size w).alloc (Nat.le_refl _) (.cells z29 29))
 have HE := hide (example14 (w.alloc (.cells z29 29)))
 have HZ := hide (Blk.new w 29 z29)
 go_enter Tryz.func28, Tryz.ntmps28
 go_wp2_with (first
  | (go_at_call 56; refine HE.out.mono ?_; rintro e w1 ⟨rfl, x⟩
     have hsz : (w.alloc (.cells z29 29)).heap.size = w.heap.size + 1 := by simp
     have HS : Hid (S14 (w.heap.size + 1) w1) := hide (by rw [← hsz]; exact x.s)
     have HB1 := hide (HB.out.trans (x.bb.mono HB.out.size))
     have hbw : Below w1.heap.size w1 (W3 w1 (w.heap.size + 1)) := (((Below.refl _ w1).alloc (Nat.le_refl _) _).alloc (by simp) _).alloc (by simp; omega) _
     have HW := hide hbw
     have HZ3 := hide ((HZ.out.below x.bb (by simp)).below hbw (Nat.lt_of_lt_of_le (by simp) x.bb.size))
     rw [hsz]
     simp only [cells22, m14]
     clear x hsz hbw)
  | (refine wpList_store_row (o := ⟨none, .store 29 _ _, _, _, _, _⟩) rfl 29 _ _ rfl w.heap.size (cells22 (h15 (w.heap.size + 1) (w1.heap.size + 1)) m15) rfl rfl 29 z29 HZ3.out (by kernel_rfl) rfl (cells22_one _ _) ?_))
 have hle := HB1.out.size
 have hne : w1.heap.size + 1 ≠ w.heap.size := by omega
 have hne2 : w1.heap.size + 1 + 1 ≠ w.heap.size := by omega
 refine ex15_end (n := w.heap.size + 1) (r := w1.heap.size + 1) (setRow_heap _ _ z29 _ _ _ HZ3.out) ⟨(HS.out.grow HW.out).setRow (by omega), Blk.setRow_far (Blk.alloc (new_blk _ _ _ (by simp)) _) hne, Blk.setRow_far (new_blk _ _ _ (by simp)) hne2⟩ (below_setRow (HB1.out.trans (HW.out.mono hle)) (Nat.le_refl _) _) rfl
end Go.Proofs.YtlnjaemdelnceaaGreatDoor

namespace Go.Proofs.YtlnjaemdelnceaaGreatDoor
open Go
theorem domI_range (m : Mod) (by_ mc : Int) : domI m by_ mc = 0 ∨ (1 ≤ domI m by_ mc ∧ domI m by_ mc ≤ domsI m by_) := by
 unfold domI
 split
 · rename_i h
   simp only [exI, Bool.and_eq_true, decide_eq_true_eq] at h
   exact .inr h.2
 · exact .inl rfl
theorem domsI_nonneg (m : Mod) (by_ : Int) : 0 ≤ domsI m by_ := by
 unfold domsI
 repeat' split
 all_goals omega
def spreadL (m : Mod) (by_ : Int) (l : List Int) : List Int :=
 (List.range (domsI m by_).toNat).map fun (d : Nat) => ((l.filter fun k => decide (domI m by_ k = (d : Int) + 1)).length : Int)
theorem spreadP_eq (m : Mod) (p : PlaceM) (item by_ : Int) : spreadP m p item by_ = spreadL m by_ (machinesP p item 0) := rfl
theorem spreadL_len (m : Mod) (by_ : Int) (l : List Int) : (spreadL m by_ l).length = (domsI m by_).toNat := by simp [spreadL]
theorem spreadL_nil (m : Mod) (by_ : Int) : spreadL m by_ [] = List.replicate (domsI m by_).toNat 0 := by
 unfold spreadL
 apply List.ext_getElem <;> simp
theorem spreadL_no (m : Mod) (by_ : Int) (l : List Int) {x : Int} (h : domI m by_ x < 1) : spreadL m by_ (l ++ [x]) = spreadL m by_ l := by
 unfold spreadL
 apply List.map_congr_left
 intro d _
 rw [List.filter_append]
 have : decide (domI m by_ x = (d : Int) + 1) = false := by simp; omega
 simp [this]
theorem spreadL_yes (m : Mod) (by_ : Int) (l : List Int) {x : Int} {d : Nat} (h : domI m by_ x = (d : Int) + 1) (hd : d < (spreadL m by_ l).length) : spreadL m by_ (l ++ [x]) = (spreadL m by_ l).set d ((spreadL m by_ l)[d] + 1) := by
 apply List.ext_getElem
 · simp [spreadL]
 · intro i h1 h2
   rw [List.getElem_set]
   split
   · rename_i e
     subst e
     simp [spreadL, List.filter_append, h]
   · rename_i e
     have : decide (domI m by_ x = (i : Int) + 1) = false := by simp; omega
     simp [spreadL, List.filter_append, this]
theorem spreadL_le (m : Mod) (by_ : Int) (l : List Int) {d : Nat} (hd : d < (spreadL m by_ l).length) : 0 ≤ (spreadL m by_ l)[d] ∧ (spreadL m by_ l)[d] ≤ l.length := by
 simp only [spreadL, List.getElem_map, List.getElem_range]
 have := List.length_filter_le (fun k => decide (domI m by_ k = (d : Int) + 1)) l
 omega
theorem machinesP_len (p : PlaceM) (item st : Int) : (machinesP p item st).length ≤ (unitsP p item).length := by
 unfold machinesP
 rw [List.length_map]
 exact List.length_filter_le _ _
theorem survP_len (m : Mod) (p : PlaceM) (f : Int × Int) (item : Int) : (survP m p f item).length ≤ (machinesP p item 0).length := List.length_filter_le _ _
end Go.Proofs.YtlnjaemdelnceaaGreatDoor
