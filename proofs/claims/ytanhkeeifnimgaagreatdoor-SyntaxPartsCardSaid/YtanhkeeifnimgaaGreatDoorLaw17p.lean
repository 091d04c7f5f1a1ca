/- The walk of exoduslaw17.SyntaxParts: it answers true. Printed by wip/gen_law17.py. Conditions: the tables are laid; lengths that fit memory. -/
import Derived.Test.YtanhkeeifnimgaaGreatDoorAwake17
import Derived.Test.YtanhkeeifnimgaaGreatDoorOwn3
import Derived.Test.YtanhkeeifnimgaaGreatDoorScan17
import Derived.Test.YtanhkeeifnimgaaGreatDoorRef17d
namespace Go.Proofs.YtanhkeeifnimgaaGreatDoor
open Go Go.RowKit Go.Proofs

theorem lex_len {l : List UInt8} {ts : List Tk} (h : LexTo l ts) : ts.length ≤ l.length := by
  induction h with
  | nil => exact Nat.le_refl _
  | @cons l t ts hne htok _ ih =>
    have hlp : 0 < l.length := List.length_pos_iff.2 hne
    have hts := tok_size (s := S l) hlp (by rw [htok])
    rw [htok] at hts
    have h1 := skip_len_le false (l.drop t.text.size)
    have h2 : (skipM false (l.drop t.text.size)).length ≤ l.length - t.text.size := by rw [List.length_drop] at h1; exact h1
    have h3 : ts.length ≤ (skipM false (l.drop t.text.size)).length := ih
    have h4 : 1 ≤ t.text.size := hts.1
    simp only [List.length_cons]
    omega
theorem own_ne {B1 B2 : Nat} {t1 t2 : TypeId} {s1 s2 n1 n2 : Nat} {w : World} {v1 v2 : Value} {x1 x2 : List Value} (h1 : w.ownsRow B1 t1 s1 v1 n1 x1) (h2 : w.ownsRow B2 t2 s2 v2 n2 x2) (hne : t1 ≠ t2) : v1.ownBlock = none ∨ v1.ownBlock ≠ v2.ownBlock := by
  rcases h1.2 with ⟨rfl, _⟩ | ⟨g, cap, cur, rfl, _, hh, _⟩
  · exact .inl rfl
  · refine .inr fun he => ?_
    rcases h2.2 with ⟨rfl, _⟩ | ⟨g', cap', cur', rfl, _, hh', _⟩
    · simp [Value.ownBlock] at he
    · have e : g = g' := by simpa [Value.ownBlock] using he
      subst e
      rw [hh] at hh'
      injection hh' with hh'
      injection hh' with _ ht
      exact hne ht
theorem wants_of {d : Decl} (h : okD d = true) : ∃ L : List Tok, scanT (textD d) = (L, 0, 0) ∧ L.length ≤ 16385 ∧ nmsL L = (if d.name.toList.isEmpty then [] else [d.name]) ++ d.refs ∧ nusL L = d.nums := by
  obtain ⟨toks, e1, e2⟩ := scan_text h
  obtain ⟨p1, p2⟩ := parts_of h
  refine ⟨_, e1, ?_, ?_, ?_⟩
  · have h1 := lex_len (text_lex h)
    have h2 := text_short h
    rw [← e2, List.length_map] at h1
    have h3 : (bs (textD d)).length = (textD d).size := rfl
    simp; omega
  · rw [nmsL_snoc]; simp [nmsL, e2, p1]
  · rw [nusL_snoc]; simp [nusL, e2, p2]
theorem ints_same {α : Type} [DecidableEq α] {f : FuncId} {args : Array Value} {X : World} {l : List α} (h : Calls Tryz.prog f args X fun e w' => e = .returned (.bool (decide (l = l))) ∧ Below X.heap.size X w') : Calls Tryz.prog f args X fun e w' => e = .returned (.bool true) ∧ Below X.heap.size X w' :=
  h.mono fun _ _ ⟨he, hb⟩ => ⟨by rw [he]; simp, hb⟩
theorem okD_eq (k : Int) (nm : ByteArray) (refs : List ByteArray) (nums : List Int) (bY : Int) (al : Bool) : okD ⟨k, nm, refs, nums, bY, al⟩ = validB k nm refs nums bY al := rfl

set_option maxRecDepth 100000 in
set_option maxHeartbeats 4000000 in
theorem syntaxParts_walk (k : Int) (nm : ByteArray) (ra : Option Addr) (refs : List ByteArray) (rc : Nat) (na : Option Addr) (nums : List Int) (nc : Nat) (bY : Int) (al : Bool) (w : World) (ha : Asc w) (hp : Pow w) (hs : nm.size ≤ 9223372036854775807) (hf : Fit refs) (hl : refs.length ≤ 9223372036854775807) (hm : nums.length ≤ 9223372036854775807) (hrc : refs.length ≤ rc) (_hnc : nums.length ≤ nc) (hr : Strs w w.heap.size ra refs) (hn : Ints w w.heap.size na nums) :
    Calls Tryz.prog 3 #[.agg #[.int .i64 k, .string nm, .slice ra refs.length rc, .slice na nums.length nc, .int .i64 bY, .bool al]] w fun e w' => e = .returned (.bool true) ∧ Below w.heap.size w w' := by
  have hB0 : Below w.heap.size w (w.alloc (.cells #[.int .i64 k, .string nm, .slice ra refs.length rc, .slice na nums.length nc, .int .i64 bY, .bool al] 25)) := (Below.refl _ _).alloc (Nat.le_refl _) _
  have HW := hide (awake17 _ (Asc.below ha (Nat.le_refl _) hB0) (Pow.below hp (Nat.le_refl _) hB0))
  have HA := hide ha
  have HP := hide hp
  clear ha hp
  have HV := (fun (X : World) (h2 : Strs X X.heap.size ra refs) (h3 : Ints X X.heap.size na nums) => valid_ref k nm ra refs rc na nums nc bY al X hs hf hl hm h2 h3)
  cases hv : validB k nm refs nums bY al
  · rw [hv] at HV
    have HV := hide HV
    clear hv
    go_enter Tryz.func3, Tryz.ntmps3
    go_wp2_with (first | (go_at_call 8; refine HW.out.mono ?_; rintro e w1 ⟨rfl, hb1⟩; have eB : Below w.heap.size w w1 := hB0.trans (hb1.mono hB0.size); have hD := (Blk.new w 25 #[.int .i64 k, .string nm, .slice ra refs.length rc, .slice na nums.length nc, .int .i64 bY, .bool al]).below hb1 (by simp); have eZ := hD.lt; have d0 := hD.cell 0; have d1 := hD.cell 1; have d2 := hD.cell 2; have d3 := hD.cell 3; have d4 := hD.cell 4; have d5 := hD.cell 5; simp at d0 d1 d2 d3 d4 d5; clear hb1 hD hB0) | (go_at_call 9; (with_reducible refine (HV.out _ ((hr.below eB).more eB.size) ((hn.below eB).more eB.size)).mono ?_); rintro e w2 ⟨rfl, hb2⟩; have eB2 := eB.trans (hb2.mono eB.size); have eZ2 := Nat.lt_of_lt_of_le eZ hb2.size; have f0 := (hb2.cell (p := ⟨w.heap.size, 0, none⟩) (by simp; omega)).trans d0; have f1 := (hb2.cell (p := ⟨w.heap.size, 1, none⟩) (by simp; omega)).trans d1; have f2 := (hb2.cell (p := ⟨w.heap.size, 2, none⟩) (by simp; omega)).trans d2; have f3 := (hb2.cell (p := ⟨w.heap.size, 3, none⟩) (by simp; omega)).trans d3; have f4 := (hb2.cell (p := ⟨w.heap.size, 4, none⟩) (by simp; omega)).trans d4; have f5 := (hb2.cell (p := ⟨w.heap.size, 5, none⟩) (by simp; omega)).trans d5))
    go_ret
    exact ⟨rfl, eB2⟩
  · rw [hv] at HV
    have HV := hide HV
    obtain ⟨L, hL, hLl, hLn, hLm⟩ := wants_of (d := ⟨k, nm, refs, nums, bY, al⟩) hv
    have hsz := (textD_valid (d := ⟨k, nm, refs, nums, bY, al⟩) hv).2
    have HT := (fun (X : World) h1 h2 (h3 : Strs X X.heap.size ra refs) (h4 : Ints X X.heap.size na nums) => text_prog k nm ra refs rc na nums nc bY al X h1 h2 hs hf hl hm hrc h3 h4)
    have HS := fun (X : World) (h : Asc X) => scan_any (textD ⟨k, nm, refs, nums, bY, al⟩) X h (by omega)
    rw [hL] at HS
    change ∀ (X : World), _ → _ → _ → _ → Calls _ _ _ _ (fun e w' => e = .returned (.string (textD ⟨k, nm, refs, nums, bY, al⟩)) ∧ _) at HT
    generalize textD ⟨k, nm, refs, nums, bY, al⟩ = s at HT HS
    have HT := hide HT
    have HS := hide HS
    have HLN := hide hLn
    have HLM := hide hLm
    have HV2 := hide hv
    clear hL hLn hLm hsz hv
    go_enter Tryz.func3, Tryz.ntmps3
    go_wp2_with (first | (go_at_call 8; refine HW.out.mono ?_; rintro e w1 ⟨rfl, hb1⟩; have eB : Below w.heap.size w w1 := hB0.trans (hb1.mono hB0.size); have hD := (Blk.new w 25 #[.int .i64 k, .string nm, .slice ra refs.length rc, .slice na nums.length nc, .int .i64 bY, .bool al]).below hb1 (by simp); have eZ := hD.lt; have d0 := hD.cell 0; have d1 := hD.cell 1; have d2 := hD.cell 2; have d3 := hD.cell 3; have d4 := hD.cell 4; have d5 := hD.cell 5; simp at d0 d1 d2 d3 d4 d5; clear hb1 hD hB0) | (go_at_call 9; (with_reducible refine (HV.out _ ((hr.below eB).more eB.size) ((hn.below eB).more eB.size)).mono ?_); rintro e w2 ⟨rfl, hb2⟩; have eB2 := eB.trans (hb2.mono eB.size); have eZ2 := Nat.lt_of_lt_of_le eZ hb2.size; have f0 := (hb2.cell (p := ⟨w.heap.size, 0, none⟩) (by simp; omega)).trans d0; have f1 := (hb2.cell (p := ⟨w.heap.size, 1, none⟩) (by simp; omega)).trans d1; have f2 := (hb2.cell (p := ⟨w.heap.size, 2, none⟩) (by simp; omega)).trans d2; have f3 := (hb2.cell (p := ⟨w.heap.size, 3, none⟩) (by simp; omega)).trans d3; have f4 := (hb2.cell (p := ⟨w.heap.size, 4, none⟩) (by simp; omega)).trans d4; have f5 := (hb2.cell (p := ⟨w.heap.size, 5, none⟩) (by simp; omega)).trans d5) | (go_at_call 11; refine (HT.out _ (Asc.below HA.out (Nat.le_refl _) eB2) (Pow.below HP.out (Nat.le_refl _) eB2) ((hr.below eB2).more eB2.size) ((hn.below eB2).more eB2.size)).mono ?_; rintro e w3 ⟨rfl, hb3⟩; have eB3 := eB2.trans (hb3.mono eB2.size); have eZ3 := Nat.lt_of_lt_of_le eZ2 hb3.size; have g0 := (hb3.cell (p := ⟨w.heap.size, 0, none⟩) (by simp; omega)).trans f0; have g1 := (hb3.cell (p := ⟨w.heap.size, 1, none⟩) (by simp; omega)).trans f1; have g2 := (hb3.cell (p := ⟨w.heap.size, 2, none⟩) (by simp; omega)).trans f2; have g3 := (hb3.cell (p := ⟨w.heap.size, 3, none⟩) (by simp; omega)).trans f3; have g4 := (hb3.cell (p := ⟨w.heap.size, 4, none⟩) (by simp; omega)).trans f4; have g5 := (hb3.cell (p := ⟨w.heap.size, 5, none⟩) (by simp; omega)).trans f5) | (go_at_call 10; refine (HS.out _ (Asc.below HA.out (Nat.le_refl _) eB3)).mono ?_; rintro e z ⟨A, c, rfl, hAc, hA, hb4⟩; have eB4 := eB3.trans (hb4.mono eB3.size); have eZ4 := Nat.lt_of_lt_of_le eZ3 hb4.size; have k0 := (hb4.cell (p := ⟨w.heap.size, 0, none⟩) (by simp; omega)).trans g0; have k1 := (hb4.cell (p := ⟨w.heap.size, 1, none⟩) (by simp; omega)).trans g1; have k2 := (hb4.cell (p := ⟨w.heap.size, 2, none⟩) (by simp; omega)).trans g2; have k3 := (hb4.cell (p := ⟨w.heap.size, 3, none⟩) (by simp; omega)).trans g3; have k4 := (hb4.cell (p := ⟨w.heap.size, 4, none⟩) (by simp; omega)).trans g4; have k5 := (hb4.cell (p := ⟨w.heap.size, 5, none⟩) (by simp; omega)).trans g5))
    clear d0 f0 g0 d1 f1 g1 d2 f2 g2 d3 f3 g3 d4 f4 g4 d5 f5 g5 hb2 hb3 hb4 eB eB2 eB3 eZ eZ2 eZ3
    have O6 : OwnS z.heap.size ((z.alloc (.cells #[] 9)).alloc (.cells #[] 3)) (.slice (some ⟨z.heap.size, 0, none⟩) 0 0) [] := (OwnS.new z [] (Nat.le_refl _) (by decide)).alloc _
    have O7 : OwnI z.heap.size ((z.alloc (.cells #[] 9)).alloc (.cells #[] 3)) (.slice (some ⟨z.heap.size + 1, 0, none⟩) 0 0) [] := by
      have := OwnI.new (B := z.heap.size) (z.alloc (.cells #[] 9)) [] (by simp) (by decide)
      simpa using this
    have Bz : Below z.heap.size z ((z.alloc (.cells #[] 9)).alloc (.cells #[] 3)) := ((Below.refl _ _).alloc (Nat.le_refl _) _).alloc (by simp) _
    go_loopw [6, 7, 8] (fun v6 v7 i wr => ∃ j : Nat, j ≤ L.length ∧ i = .int .i64 j ∧ OwnS z.heap.size wr v6 (nmsL (L.take j)) ∧ OwnI z.heap.size wr v7 (nusL (L.take j)) ∧ (nmsL (L.take j)).length ≤ j ∧ (nusL (L.take j)).length ≤ j ∧ Below z.heap.size z wr) (fun _ _ i _ => L.length - (intOf i).toNat)
    case atStart => exact ⟨0, Nat.zero_le _, rfl, O6, O7, Nat.le_refl _, Nat.le_refl _, Bz⟩
    case round =>
      clear O6 O7 Bz
      obtain ⟨j, hj, rfl, h6, h7, n6, n7, hB⟩ := hrel
      have hlo6 := h6.lt
      have hlo7 := h7.lt
      have hne67 := own_ne h6 h7 (by decide)
      have hne76 := own_ne h7 h6 (by decide)
      by_cases hlt : j < L.length
      · have hltI : (j : Int) < (L.length : Int) := by omega
        obtain ⟨b, off, rfl, hbz, y0, y1, y2, _⟩ := (hA.below hB).at_ hlt
        have htk : L.take (j + 1) = L.take j ++ [L[j]] := by rw [List.take_succ_eq_append_getElem hlt]
        have e6 := nmsL_snoc (L.take j) L[j]
        have e7 := nusL_snoc (L.take j) L[j]
        rw [← htk] at e6 e7
        clear htk
        generalize L[j].kind = tk at *
        generalize L[j].text = tt at *
        generalize L[j].n = tn at *
        by_cases q1 : tk = 1
        · have E6 := hide (e6.trans (by rw [if_pos q1]))
          have E7 := hide (e7.trans (by rw [if_neg (by omega), List.append_nil]))
          have b1 : ((tk : Int) == 1) = true := by simp [q1]
          have b3 : ((tk : Int) == 3) = false := by simp; omega
          clear e6 e7 q1
          go_wp2_with (at_builtin; refine append_strs rfl _ _ rfl z.heap.size _ (nmsL (L.take j)) rfl (h6.alloc _) _ _ 1 [tt] rfl (Strs.newRow2 wr 9 [tt] rfl) (by simp; omega) (Nat.le_trans hB.size (by simp)) ?_; intro v3 x3 hO3 hg3 _; have hg : (wr.alloc (.cells #[.string tt] 9)).grownBy x3 u6.ownBlock := hg3; have B3 := (hB.alloc hB.size (.cells #[.string tt] 9)).grown hg (Nat.le_trans hB.size (by simp)) (fun q hq => (hlo6 q hq).1); have z0 := (B3.cell (p := ⟨b, off + j * 4, none⟩) hbz).trans ((hB.cell (p := ⟨b, off + j * 4, none⟩) hbz).symm.trans y0); have O7 := (h7.alloc (.cells #[.string tt] 9)).kept hg hne76; clear hg3 hg)
          refine ⟨⟨j + 1, by omega, by go_num, by rw [E6.out]; exact hO3, by rw [E7.out]; exact O7, by rw [E6.out]; simp; omega, by rw [E7.out]; omega, B3⟩, by simp [intOf]; omega⟩
        by_cases q3 : tk = 3
        · have E6 := hide (e6.trans (by rw [if_neg q1, List.append_nil]))
          have E7 := hide (e7.trans (by rw [if_pos q3]))
          have b1 : ((tk : Int) == 1) = false := by simp; omega
          have b3 : ((tk : Int) == 3) = true := by simp [q3]
          clear e6 e7 q1 q3
          go_wp2_with (at_builtin; refine append_ints rfl _ _ rfl z.heap.size _ (nusL (L.take j)) rfl (h7.alloc _) _ _ 1 [tn] rfl (Ints.newRow2 wr 3 [tn] rfl) (by simp; omega) (Nat.le_trans hB.size (by simp)) ?_; intro v3 x3 hO3 hg3 _; have hg : (wr.alloc (.cells #[.int .i64 tn] 3)).grownBy x3 u7.ownBlock := hg3; have B3 := (hB.alloc hB.size (.cells #[.int .i64 tn] 3)).grown hg (Nat.le_trans hB.size (by simp)) (fun q hq => (hlo7 q hq).1); have O6 := (h6.alloc (.cells #[.int .i64 tn] 3)).kept hg hne67; clear hg3 hg)
          refine ⟨⟨j + 1, by omega, by go_num, by rw [E6.out]; exact O6, by rw [E7.out]; exact hO3, by rw [E6.out]; omega, by rw [E7.out]; simp; omega, B3⟩, by simp [intOf]; omega⟩
        · have E6 := hide (e6.trans (by rw [if_neg q1, List.append_nil]))
          have E7 := hide (e7.trans (by rw [if_neg q3, List.append_nil]))
          have b1 : ((tk : Int) == 1) = false := by simpa using q1
          have b3 : ((tk : Int) == 3) = false := by simpa using q3
          clear e6 e7 q1 q3
          go_wp2_with fail
          refine ⟨⟨j + 1, by omega, by go_num, by rw [E6.out]; exact h6, by rw [E7.out]; exact h7, by rw [E6.out]; omega, by rw [E7.out]; omega, hB⟩, by simp [intOf]; omega⟩
      · have hjl : L.take j = L := List.take_of_length_le (by omega)
        rw [hjl] at h6 h7 n6 n7
        have hjI : ¬ (j : Int) < (L.length : Int) := by omega
        have hj5 : j ≤ 16385 := by omega
        clear hjl
        rw [HLN.out] at h6 n6
        rw [HLM.out] at h7 n7
        have m0 := (hB.cell (p := ⟨w.heap.size, 0, none⟩) (by omega)).trans k0
        have m1 := (hB.cell (p := ⟨w.heap.size, 1, none⟩) (by omega)).trans k1
        have m2 := (hB.cell (p := ⟨w.heap.size, 2, none⟩) (by omega)).trans k2
        have m3 := (hB.cell (p := ⟨w.heap.size, 3, none⟩) (by omega)).trans k3
        have eW : Below w.heap.size w wr := eB4.trans (hB.mono eB4.size)
        have hzw : z.heap.size ≤ wr.heap.size := hB.size
        obtain ⟨A7, c7, rfl, _, hI7⟩ := h7.form
        have HI := hide (fun (X : World) (h1 : Ints X X.heap.size A7 nums) (h2 : Ints X X.heap.size na nums) => ints_same (ints_ref A7 na c7 nc nums nums X h1 h2 hm hm))
        cases hnm : nm.toList.isEmpty
        · rw [hnm] at h6 n6
          simp only [Bool.false_eq_true, if_false] at h6 n6
          obtain ⟨A6, c6, rfl, hc6, hS6⟩ := h6.form3
          have hnb : (!nm.toList.isEmpty) = true := by rw [hnm]; rfl
          have hln : ([nm] ++ refs).length ≤ 9223372036854775807 := by omega
          have HTX := hide (fun (A : Option Addr) (cc : Nat) (X : World) (h1 : Strs X X.heap.size A6 ([nm] ++ refs)) (h2 : Strs X X.heap.size A ([nm] ++ refs)) => ints_same (texts_ref A6 A c6 cc ([nm] ++ refs) ([nm] ++ refs) X h1 h2 hln hln))
          have hO0 : OwnS wr.heap.size (wr.alloc (.cells #[.string nm] 9)) (.slice (some ⟨wr.heap.size, 0, none⟩) 1 1) [nm] := OwnS.new wr [nm] (Nat.le_refl _) (by unfold maxLen; simp)
          have hB0 : Below wr.heap.size wr (wr.alloc (.cells #[.string nm] 9)) := (Below.refl _ _).alloc (Nat.le_refl _) _
          have hlr : refs.length ≤ 16385 := by simp at n6; omega
          have p2 := (World.cell?_alloc_lt wr (.cells #[.string nm] 9) ⟨w.heap.size, 2, none⟩ (by simp; omega)).trans m2
          clear hnm
          go_wp2_with (first
            | (at_builtin; refine append_strs rfl _ _ rfl wr.heap.size _ [nm] rfl hO0 w.heap.size ra rc refs rfl ((hr.below eW).alloc eW.size _) (by simp; omega) (by simp) ?_; intro v9 x3 hO9 hg3 _; have hg : (wr.alloc (.cells #[.string nm] 9)).grownBy x3 (some wr.heap.size) := hg3; have B3 : Below wr.heap.size wr x3 := hB0.grown hg (by simp) (fun q hq => by injection hq with hq; omega); obtain ⟨A9, c9, rfl, hc9, hS9⟩ := hO9.form3; have q3 := (B3.cell (p := ⟨w.heap.size, 3, none⟩) (by show w.heap.size < _; omega)).trans m3; have hS6' := (hS6.below B3).more B3.size; clear hg3 hg)
            | (go_at_call 12; refine (HTX.out A9 c9 _ hS6' hS9).mono ?_; rintro e x4 ⟨rfl, hb4⟩; have B4 := B3.trans (hb4.mono B3.size); have q4 := (B4.cell (p := ⟨w.heap.size, 3, none⟩) (by show w.heap.size < _; omega)).trans m3; have eW4 := eW.trans (B4.mono eW.size))
            | (go_at_call 13; refine (HI.out _ ((hI7.below B4).more B4.size) ((hn.below eW4).more eW4.size)).mono ?_; rintro e x5 ⟨rfl, hb5⟩))
          go_ret
          exact ⟨rfl, eW4.trans (hb5.mono eW4.size)⟩
        · rw [hnm] at h6 n6
          simp only [if_true, List.nil_append] at h6 n6
          obtain ⟨A6, c6, rfl, hc6, hS6⟩ := h6.form3
          have hnb : (!nm.toList.isEmpty) = false := by rw [hnm]; rfl
          have HTX := hide (fun (X : World) (h1 : Strs X X.heap.size A6 refs) (h2 : Strs X X.heap.size ra refs) => ints_same (texts_ref A6 ra c6 rc refs refs X h1 h2 hl hl))
          clear hnm
          go_wp2_with (first
            | (go_at_call 12; refine (HTX.out _ hS6 ((hr.below eW).more eW.size)).mono ?_; rintro e x4 ⟨rfl, hb4⟩; have q4 := (hb4.cell (p := ⟨w.heap.size, 3, none⟩) (by show w.heap.size < _; omega)).trans m3; have eW4 := eW.trans (hb4.mono eW.size))
            | (go_at_call 13; refine (HI.out _ ((hI7.below hb4).more hb4.size) ((hn.below eW4).more eW4.size)).mono ?_; rintro e x5 ⟨rfl, hb5⟩))
          go_ret
          exact ⟨rfl, eW4.trans (hb5.mono eW4.size)⟩
end Go.Proofs.YtanhkeeifnimgaaGreatDoor
