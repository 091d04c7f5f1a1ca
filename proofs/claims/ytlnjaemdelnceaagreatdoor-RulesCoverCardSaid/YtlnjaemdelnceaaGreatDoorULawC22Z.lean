/- A part of the claim: see its last text. -/
import Derived.Test.YtlnjaemdelnceaaGreatDoorULaw22cZ
import Derived.Test.YtlnjaemdelnceaaGreatDoorUK44

set_option maxRecDepth 100000
set_option maxHeartbeats 16000000
namespace Go.Proofs.YtlnjaemdelnceaaGreatDoor
open Go Go.RowKit Go.Proofs
structure C5 (w : World) (M X P F G : Array Value) (W : World) : Prop where
 s : S4 w M X P F W
 g : Blk W (w.heap.size + 1 + 1 + 1 + 1) 37 G
theorem C5.start (w : World) (M X P F G : Array Value) : C5 w M X P F G (((((w.alloc (.cells M 29)).alloc (.cells X 32)).alloc (.cells P 35)).alloc (.cells F 37)).alloc (.cells G 37)) := by
 refine ⟨(S4.start w M X P F).grow ((Below.refl _ _).alloc (Nat.le_refl _) _), ?_⟩
 have := Blk.new ((((w.alloc (.cells M 29)).alloc (.cells X 32)).alloc (.cells P 35)).alloc (.cells F 37)) 37 G
 simpa using this
theorem C5.grow {w : World} {M X P F G : Array Value} {W W2 : World} (s : C5 w M X P F G W) (hb : Below W.heap.size W W2) : C5 w M X P F G W2 := ⟨s.s.grow hb, s.g.below hb s.g.lt⟩
theorem C5.cells {w : World} {h : MH} {m : Mod} {x : RuleM} {A Ap : Option Addr} {c cp : Nat} {p : PlaceM} {f g : Int × Int} {W : World} (s : C5 w #[.slice h.s m.sT.length h.sc, .slice h.f m.fT.length h.fc, .slice h.r m.rT.length h.rc, .slice h.m m.mT.length h.mc, .slice h.l m.lT.length h.lc, .slice h.i m.iT.length h.ic, .int .i64 m.dT, .int .i64 m.oT, .int .i64 m.vT, .int .i64 m.aT, .slice h.u m.uT.length h.uc] #[.int .i64 x.kind, .int .i64 x.item, .int .i64 x.other, .int .i64 x.n, .int .i64 x.by_, .bool x.always, .slice A x.machines.length c] #[.slice Ap p.length cp] #[.int .i64 f.1, .int .i64 f.2] #[.int .i64 g.1, .int .i64 g.2] W) :
    ((W.cell? ⟨w.heap.size, 0, none⟩ = some (.slice h.s m.sT.length h.sc) ∧ W.cell? ⟨w.heap.size, 1, none⟩ = some (.slice h.f m.fT.length h.fc) ∧ W.cell? ⟨w.heap.size, 2, none⟩ = some (.slice h.r m.rT.length h.rc) ∧ W.cell? ⟨w.heap.size, 3, none⟩ = some (.slice h.m m.mT.length h.mc) ∧ W.cell? ⟨w.heap.size, 4, none⟩ = some (.slice h.l m.lT.length h.lc) ∧ W.cell? ⟨w.heap.size, 5, none⟩ = some (.slice h.i m.iT.length h.ic) ∧ W.cell? ⟨w.heap.size, 6, none⟩ = some (.int .i64 m.dT) ∧ W.cell? ⟨w.heap.size, 7, none⟩ = some (.int .i64 m.oT) ∧ W.cell? ⟨w.heap.size, 8, none⟩ = some (.int .i64 m.vT) ∧ W.cell? ⟨w.heap.size, 9, none⟩ = some (.int .i64 m.aT) ∧ W.cell? ⟨w.heap.size, 10, none⟩ = some (.slice h.u m.uT.length h.uc)) ∧ (W.cell? ⟨w.heap.size + 1, 0, none⟩ = some (.int .i64 x.kind) ∧ W.cell? ⟨w.heap.size + 1, 1, none⟩ = some (.int .i64 x.item) ∧ W.cell? ⟨w.heap.size + 1, 2, none⟩ = some (.int .i64 x.other) ∧ W.cell? ⟨w.heap.size + 1, 3, none⟩ = some (.int .i64 x.n) ∧ W.cell? ⟨w.heap.size + 1, 4, none⟩ = some (.int .i64 x.by_) ∧ W.cell? ⟨w.heap.size + 1, 5, none⟩ = some (.bool x.always) ∧ W.cell? ⟨w.heap.size + 1, 6, none⟩ = some (.slice A x.machines.length c)) ∧ W.cell? ⟨w.heap.size + 1 + 1, 0, none⟩ = some (.slice Ap p.length cp) ∧ W.cell? ⟨w.heap.size + 1 + 1 + 1, 0, none⟩ = some (.int .i64 f.1) ∧ W.cell? ⟨w.heap.size + 1 + 1 + 1, 1, none⟩ = some (.int .i64 f.2)) ∧ (W.cell? ⟨w.heap.size + 1 + 1 + 1 + 1, 0, none⟩ = some (.int .i64 g.1) ∧ W.cell? ⟨w.heap.size + 1 + 1 + 1 + 1, 1, none⟩ = some (.int .i64 g.2)) ∧ w.heap.size < W.heap.size ∧ w.heap.size + 1 < W.heap.size ∧ w.heap.size + 1 + 1 < W.heap.size ∧ w.heap.size + 1 + 1 + 1 < W.heap.size ∧ w.heap.size + 1 + 1 + 1 + 1 < W.heap.size :=
 ⟨s.s.cells, ⟨s.g.cell 0, s.g.cell 1⟩, s.s.m.lt, s.s.x.lt, s.s.p.lt, s.s.f.lt, s.g.lt⟩
theorem rulesCover_walk (h : MH) (m : Mod) (x : RuleM) (A : Option Addr) (c : Nat) (Ap : Option Addr) (cp : Nat) (p : PlaceM) (f g : Int × Int) (w : World) (d : MD w w.heap.size h m) (hI : Ints w w.heap.size A x.machines) (hml : x.machines.length ≤ 9223372036854775807)
    (hP : PR w w.heap.size Ap p) (hpl : p.length ≤ 9223372036854775807) (ha : Asc w) (hpw : Pow w) :
    Calls Tryz.prog 8 #[.agg #[.slice h.s m.sT.length h.sc, .slice h.f m.fT.length h.fc, .slice h.r m.rT.length h.rc, .slice h.m m.mT.length h.mc, .slice h.l m.lT.length h.lc, .slice h.i m.iT.length h.ic, .int .i64 m.dT, .int .i64 m.oT, .int .i64 m.vT, .int .i64 m.aT, .slice h.u m.uT.length h.uc], .agg #[.int .i64 x.kind, .int .i64 x.item, .int .i64 x.other, .int .i64 x.n, .int .i64 x.by_, .bool x.always, .slice A x.machines.length c], .agg #[.slice Ap p.length cp], .agg #[.int .i64 f.1, .int .i64 f.2], .agg #[.int .i64 g.1, .int .i64 g.2]] w (AnsR w (.bool true)) := by
 have hS := C5.start w #[.slice h.s m.sT.length h.sc, .slice h.f m.fT.length h.fc, .slice h.r m.rT.length h.rc, .slice h.m m.mT.length h.mc, .slice h.l m.lT.length h.lc, .slice h.i m.iT.length h.ic, .int .i64 m.dT, .int .i64 m.oT, .int .i64 m.vT, .int .i64 m.aT, .slice h.u m.uT.length h.uc] #[.int .i64 x.kind, .int .i64 x.item, .int .i64 x.other, .int .i64 x.n, .int .i64 x.by_, .bool x.always, .slice A x.machines.length c] #[.slice Ap p.length cp] #[.int .i64 f.1, .int .i64 f.2] #[.int .i64 g.1, .int .i64 g.2]
 have HAW := hide (awake22 _ (ha.below (Nat.le_refl _) hS.s.b) (hpw.below (Nat.le_refl _) hS.s.b))
 have HLA := hide (fun W (hW : Below w.heap.size w W) => large_one h m Ap cp p W (d.grow hW) hpl (hP.grow hW))
 have HPV := hide (fun W (hW : Below w.heap.size w W) => place_valid h m Ap cp p W (d.grow hW) (hP.grow hW) hpl)
 have HCV := hide (fun W (hW : Below w.heap.size w W) => covers_prog h m f g W (d.grow hW))
 have HH1 := hide (fun (hm : FewL m) (hp1 : p.length ≤ 24) (hp2 : ∀ l ∈ p, l.length ≤ 24) (e : Int × Int) W (hW : Below w.heap.size w W) => holds_prog h m x A c Ap cp p e W ⟨d.grow hW, hI.grow hW, hml, hP.grow hW, by omega, small_units hp2 _, hm.m.doms _⟩)
 have HF1 := hide (fun (hm : FewL m) W => fails_prog h m hm.m x A c W)
 have HS := hide hS
 have hB2 : ∀ b : Bool, b = false ∨ b = true := fun b => by cases b <;> simp
 clear d hI hP ha hpw hS
 obtain ⟨vp, hvp⟩ : ∃ b, b = validPl m p := ⟨_, rfl⟩
 rw [← hvp] at HPV
 obtain ⟨cv, hcv⟩ : ∃ b, b = coversB m f g := ⟨_, rfl⟩
 rw [← hcv] at HCV
 obtain ⟨hf, hhf⟩ : ∃ b, b = holdsR m x p f := ⟨_, rfl⟩
 obtain ⟨hg, hhg⟩ : ∃ b, b = holdsR m x p g := ⟨_, rfl⟩
 have HCO := hide (show vp = true → cv = true → hf = true → hg = true from fun e1 e2 e3 => by rw [hhg]; exact cover_holds (by rw [← hvp]; exact e1) (by rw [← hcv]; exact e2) (by rw [← hhf]; exact e3))
 have HHF := hide hhf
 have HHG := hide hhg
 obtain ⟨L, hL⟩ : ∃ L, L = failuresR m x := ⟨_, rfl⟩
 have HLL := hide (show FewL m → L.length ≤ 401 from fun hm => by rw [hL]; exact failuresR_len hm.m x)
 have HZE := hide (show ((0, 0) : Int × Int) ∈ L by rw [hL]; exact zero_fails m x)
 rw [← hL] at HF1
 clear hvp hcv hhf hhg hL
 go_enter Tryz.func8, Tryz.ntmps8
 rcases hB2 (decide ((24 : Int) < (x.machines.length : Int))) with g0 | g0 <;> cases vp
 all_goals
  go_upto_region 5 with (first
   | (go_at_call 9; refine HAW.out.mono ?_; rintro e w1 ⟨rfl, hb⟩
      have HS1 := hide (HS.out.grow hb)
      obtain ⟨⟨⟨a0, a1, a2, a3, a4, a5, a6, a7, a8, a9, a10⟩, ⟨x0, x1, x2, x3, x4, x5, x6⟩, p0, f0, f1⟩, ⟨q0, q1⟩, l1, l2, l3, l4, l5⟩ := HS1.out.cells
      clear hb)
   | (go_at_call 10; (with_reducible refine (HLA.out _ HS1.out.s.b).mono ?_); rintro e w2 ⟨b, rfl, hb, hlg⟩
      have HS2 := hide (HS1.out.grow (((Below.refl _ _).alloc (Nat.le_refl _) _).trans (hb.mono (by simp))))
      have HLG := hide hlg
      clear hb hlg a0 a1 a2 a3 a4 a5 a6 a7 a8 a9 a10 x0 x1 x2 x3 x4 x5 x6 p0 f0 f1 q0 q1 l1 l2 l3 l4 l5
      obtain ⟨⟨⟨a0, a1, a2, a3, a4, a5, a6, a7, a8, a9, a10⟩, ⟨x0, x1, x2, x3, x4, x5, x6⟩, p0, f0, f1⟩, ⟨q0, q1⟩, l1, l2, l3, l4, l5⟩ := HS2.out.cells
      cases b)
   | (go_at_call 23; (with_reducible refine (HPV.out _ HS2.out.s.b).mono ?_); rintro e w3 ⟨rfl, hb⟩
      have HS3 := hide (HS2.out.grow hb)
      clear hb a0 a1 a2 a3 a4 a5 a6 a7 a8 a9 a10 x0 x1 x2 x3 x4 x5 x6 p0 f0 f1 q0 q1 l1 l2 l3 l4 l5
      obtain ⟨⟨⟨a0, a1, a2, a3, a4, a5, a6, a7, a8, a9, a10⟩, ⟨x0, x1, x2, x3, x4, x5, x6⟩, p0, f0, f1⟩, ⟨q0, q1⟩, l1, l2, l3, l4, l5⟩ := HS3.out.cells))
 rotate_left 2
 · obtain ⟨hm, hp⟩ := HLG.out (by first | trivial | rfl)
   have HH := hide (HH1.out hm (hp p (by simp)).1 (hp p (by simp)).2)
   have HFA := hide (HF1.out hm)
   have HLN := hide (HLL.out hm)
   have HC := HS3
   clear hm hp HH1 HF1 HLL HLG HLA HAW HPV HS HS1 HS2 HS3
   go_cut [49] from 31 to 49 (fun u wx => u = .bool false ∧ C5 w #[.slice h.s m.sT.length h.sc, .slice h.f m.fT.length h.fc, .slice h.r m.rT.length h.rc, .slice h.m m.mT.length h.mc, .slice h.l m.lT.length h.lc, .slice h.i m.iT.length h.ic, .int .i64 m.dT, .int .i64 m.oT, .int .i64 m.vT, .int .i64 m.aT, .slice h.u m.uT.length h.uc] #[.int .i64 x.kind, .int .i64 x.item, .int .i64 x.other, .int .i64 x.n, .int .i64 x.by_, .bool x.always, .slice A x.machines.length c] #[.slice Ap p.length cp] #[.int .i64 f.1, .int .i64 f.2] #[.int .i64 g.1, .int .i64 g.2] wx)
   case first =>
    have HHF2 := hide (fun W (hW : Below w.heap.size w W) => HH.out f W hW)
    have HHG2 := hide (fun W (hW : Below w.heap.size w W) => HH.out g W hW)
    rw [← HHF.out] at HHF2
    rw [← HHG.out] at HHG2
    clear HHF HHG
    have hno : ¬ (cv = true ∧ hf = true ∧ hg = false) := fun ⟨e1, e2, e3⟩ => by
     have h9 := HCO.out (by first | trivial | rfl) e1 e2
     rw [e3] at h9
     cases h9
    cases cv <;> cases hf <;> cases hg
    all_goals first
     | exact absurd ⟨rfl, rfl, rfl⟩ hno
     | skip
    all_goals
     clear HCO hno
     go_wp2_with (first
      | (go_at_call 27; (with_reducible refine (HCV.out _ HC.out.s.b).mono ?_); rintro e w4 ⟨rfl, hb⟩
         have HQ := hide (HC.out.grow hb)
         clear HC hb a0 a1 a2 a3 a4 a5 a6 a7 a8 a9 a10 x0 x1 x2 x3 x4 x5 x6 p0 f0 f1 q0 q1 l1 l2 l3 l4 l5
         have HC := HQ
         clear HQ
         obtain ⟨⟨⟨a0, a1, a2, a3, a4, a5, a6, a7, a8, a9, a10⟩, ⟨x0, x1, x2, x3, x4, x5, x6⟩, p0, f0, f1⟩, ⟨q0, q1⟩, l1, l2, l3, l4, l5⟩ := HC.out.cells)
      | (go_at_call 11; (with_reducible refine (HHF2.out _ HC.out.s.b).mono ?_); rintro e w5 ⟨rfl, hb⟩
         have HQ := hide (HC.out.grow hb)
         clear HC hb a0 a1 a2 a3 a4 a5 a6 a7 a8 a9 a10 x0 x1 x2 x3 x4 x5 x6 p0 f0 f1 q0 q1 l1 l2 l3 l4 l5
         have HC := HQ
         clear HQ
         obtain ⟨⟨⟨a0, a1, a2, a3, a4, a5, a6, a7, a8, a9, a10⟩, ⟨x0, x1, x2, x3, x4, x5, x6⟩, p0, f0, f1⟩, ⟨q0, q1⟩, l1, l2, l3, l4, l5⟩ := HC.out.cells)
      | (go_at_call 11; (with_reducible refine (HHG2.out _ HC.out.s.b).mono ?_); rintro e w6 ⟨rfl, hb⟩
         have HQ := hide (HC.out.grow hb)
         clear HC hb a0 a1 a2 a3 a4 a5 a6 a7 a8 a9 a10 x0 x1 x2 x3 x4 x5 x6 p0 f0 f1 q0 q1 l1 l2 l3 l4 l5
         have HC := HQ
         clear HQ
         obtain ⟨⟨⟨a0, a1, a2, a3, a4, a5, a6, a7, a8, a9, a10⟩, ⟨x0, x1, x2, x3, x4, x5, x6⟩, p0, f0, f1⟩, ⟨q0, q1⟩, l1, l2, l3, l4, l5⟩ := HC.out.cells))
     go_meet
     exact ⟨rfl, HC.out⟩
   case rest =>
    obtain ⟨rfl, hc⟩ := hcut
    clear HC a0 a1 a2 a3 a4 a5 a6 a7 a8 a9 a10 x0 x1 x2 x3 x4 x5 x6 p0 f0 f1 q0 q1 l1 l2 l3 l4 l5 HCV HCO HHF HHG
    have HC := hide hc
    clear hc
    obtain ⟨⟨⟨a0, a1, a2, a3, a4, a5, a6, a7, a8, a9, a10⟩, ⟨x0, x1, x2, x3, x4, x5, x6⟩, p0, f0, f1⟩, ⟨q0, q1⟩, l1, l2, l3, l4, l5⟩ := HC.out.cells
    go_upto_region 8 with (go_at_call 14; (with_reducible refine (HFA.out _).mono ?_); rintro e w7 ⟨v7, rfl, ho, hb⟩; obtain ⟨A7, c7, rfl, hr7, hl7⟩ := ho.form; have HR7 := hide hr7; have HD := hide (HC.out.grow hb); clear HC hb ho hr7 a0 a1 a2 a3 a4 a5 a6 a7 a8 a9 a10 x0 x1 x2 x3 x4 x5 x6 p0 f0 f1 q0 q1 l1 l2 l3 l4 l5)
    go_loopw [12, 54] (fun _ i wr => ∃ k : Nat, k ≤ L.length ∧ i = .int .i64 k ∧ Hid (∀ j (hj : j < L.length), j < k → holdsR m x p L[j] = true) ∧ Hid (C5 w #[.slice h.s m.sT.length h.sc, .slice h.f m.fT.length h.fc, .slice h.r m.rT.length h.rc, .slice h.m m.mT.length h.mc, .slice h.l m.lT.length h.lc, .slice h.i m.iT.length h.ic, .int .i64 m.dT, .int .i64 m.oT, .int .i64 m.vT, .int .i64 m.aT, .slice h.u m.uT.length h.uc] #[.int .i64 x.kind, .int .i64 x.item, .int .i64 x.other, .int .i64 x.n, .int .i64 x.by_, .bool x.always, .slice A x.machines.length c] #[.slice Ap p.length cp] #[.int .i64 f.1, .int .i64 f.2] #[.int .i64 g.1, .int .i64 g.2] wr) ∧ Hid (Below w7.heap.size w7 wr)) (fun _ i _ => L.length - (intOf i).toNat)
    case atStart => exact ⟨0, Nat.zero_le _, rfl, fun j hj h0 => absurd h0 (by omega), HD.out, Below.refl _ _⟩
    case round =>
     clear HD
     obtain ⟨k, hk, rfl, hs, hS, hB⟩ := hrel
     by_cases hlt : k < L.length
     · obtain ⟨b, off, hA, hb, y0, y1⟩ := (HR7.out.grow hB.out).at_ hlt
       obtain ⟨e1, he1⟩ : ∃ e, e = L[k] := ⟨_, rfl⟩
       rw [← he1] at y0 y1
       obtain ⟨q, hq⟩ : ∃ q, q = holdsR m x p e1 := ⟨_, rfl⟩
       have HE := hide (fun W (hW : Below w.heap.size w W) => HH.out e1 W hW)
       rw [← hq] at HE
       have HNX := hide (show q = true → ∀ j (hj : j < L.length), j < k + 1 → holdsR m x p L[j] = true from fun e j hj h1 => by
        rcases Nat.lt_or_ge j k with h2 | h2
        · exact hs.out j hj h2
        · obtain rfl : j = k := by omega
          rw [← he1, ← hq]; exact e)
       have HLT := hide hlt
       have hkI : (k : Int) < (L.length : Int) := by omega
       subst hA
       have hbx : Below wr.heap.size wr (wr.alloc (.cells #[.int .i64 e1.1, .int .i64 e1.2] 37)) := (Below.refl _ _).alloc (Nat.le_refl _) _
       have HBX := hide hbx
       have HC := hide (hS.out.grow hbx)
       clear he1 hq hs hbx hlt hS
       obtain ⟨⟨⟨a0, a1, a2, a3, a4, a5, a6, a7, a8, a9, a10⟩, ⟨x0, x1, x2, x3, x4, x5, x6⟩, p0, f0, f1⟩, ⟨q0, q1⟩, l1, l2, l3, l4, l5⟩ := HC.out.cells
       have e0 : (wr.alloc (.cells #[.int .i64 e1.1, .int .i64 e1.2] 37)).cell? ⟨wr.heap.size, 0, none⟩ = some (.int .i64 e1.1) := (Blk.new wr _ _).cell 0
       have e2 : (wr.alloc (.cells #[.int .i64 e1.1, .int .i64 e1.2] 37)).cell? ⟨wr.heap.size, 1, none⟩ = some (.int .i64 e1.2) := (Blk.new wr _ _).cell 1
       cases q
       · go_wp2_with (go_at_call 11; (with_reducible refine (HE.out _ HC.out.s.b).mono ?_); rintro e w8 ⟨rfl, hb2⟩; have HD := hide (HC.out.grow hb2); clear hb2)
         go_ret
         exact ⟨rfl, HD.out.s.b⟩
       · go_wp2_with (go_at_call 11; (with_reducible refine (HE.out _ HC.out.s.b).mono ?_); rintro e w8 ⟨rfl, hb2⟩; have HD := hide (HC.out.grow hb2); have HB8 := hide (hB.out.trans ((HBX.out.trans (hb2.mono HBX.out.size)).mono hB.out.size)); clear hb2)
         go_roundw
         case rel => exact ⟨k + 1, by have := HLT.out; omega, by have := HLT.out; go_num, HNX.out (by first | trivial | rfl), HD, HB8⟩
         case measure => have := HLT.out; simp [intOf]; omega
     · obtain rfl : k = L.length := by omega
       have HC := hS
       have HE := hide (fun W (hW : Below w.heap.size w W) => (show Calls Tryz.prog 11 #[.agg #[.slice h.s m.sT.length h.sc, .slice h.f m.fT.length h.fc, .slice h.r m.rT.length h.rc, .slice h.m m.mT.length h.mc, .slice h.l m.lT.length h.lc, .slice h.i m.iT.length h.ic, .int .i64 m.dT, .int .i64 m.oT, .int .i64 m.vT, .int .i64 m.aT, .slice h.u m.uT.length h.uc], .agg #[.int .i64 x.kind, .int .i64 x.item, .int .i64 x.other, .int .i64 x.n, .int .i64 x.by_, .bool x.always, .slice A x.machines.length c], .agg #[.slice Ap p.length cp], .agg #[.int .i64 0, .int .i64 0]] W (AnsR W (.bool true)) from by
        have h1 := HH.out (0, 0) W hW
        obtain ⟨j, hj, e⟩ := List.getElem_of_mem HZE.out
        rwa [show holdsR m x p (0, 0) = true by rw [← e]; exact hs.out j hj hj] at h1))
       clear hS
       obtain ⟨⟨⟨a0, a1, a2, a3, a4, a5, a6, a7, a8, a9, a10⟩, ⟨x0, x1, x2, x3, x4, x5, x6⟩, p0, f0, f1⟩, ⟨q0, q1⟩, l1, l2, l3, l4, l5⟩ := HC.out.cells
       go_wp2_with (go_at_call 11; (with_reducible refine (HE.out _ HC.out.s.b).mono ?_); rintro e w8 ⟨rfl, hb2⟩; have HD := hide (HC.out.grow hb2); clear hb2)
       go_ret
       exact ⟨rfl, HD.out.s.b⟩
 all_goals
  go_ret
  first | exact ⟨rfl, HS3.out.s.b⟩ | exact ⟨rfl, HS2.out.s.b⟩
end Go.Proofs.YtlnjaemdelnceaaGreatDoor
