/- The walk of exoduslaw18.ParserJoins: it answers true. Conditions: the tables are laid; lengths that fit memory. -/
import Derived.Test.YtanhkeeifnimgaaDoorAw18
namespace Go.Proofs.YtanhkeeifnimgaaDoor
open Go Go.RowKit Go.Proofs

theorem sameL_refl3 (l : List Decl) : sameL l l = true := sameL_true l l rfl fun _ _ _ => by simp [sameD]
/-- the rows of declarations that another slice holds, told of a slice of the call's own -/
theorem own_dvs {w : World} {B B0 : Nat} {v : Value} {L : List DV} (h : w.ownsRow B0 38 6 v L.length (L.flatMap cellsD)) (hx : ∀ x ∈ L, ∃ ra rc na nc, x.2.1 = .slice ra x.1.refs.length rc ∧ x.2.2 = .slice na x.1.nums.length nc ∧ x.1.refs.length ≤ rc ∧ x.1.nums.length ≤ nc ∧ Strs w B ra x.1.refs ∧ Ints w B na x.1.nums ∧ Fine x.1) (hB : B ≤ w.heap.size) :
    ∃ A c, v = .slice A L.length c ∧ DRow w w.heap.size A L := by
  have h2 := h
  rcases h2.2 with ⟨rfl, h0⟩ | ⟨g, cap, cur, rfl, _, _, hc, _⟩
  · have : L = [] := List.eq_nil_of_length_eq_zero h0
    subst this
    exact ⟨none, 0, rfl, Reads.none_, fun x hx => absurd hx (by simp)⟩
  · refine ⟨_, _, rfl, Reads.of_own h, fun x hx2 => ?_⟩
    obtain ⟨ra, rc, na, nc, e1, e2, h1, h2, h3, h4, h5⟩ := hx x hx2
    exact ⟨ra, rc, na, nc, e1, e2, h1, h2, h3.more hB, h4.more hB, h5⟩

/-- where tokens lie -/
theorem scanGo_pos (s : ByteArray) : ∀ (f k : Nat) (out : List Tok), (∀ t ∈ out, 0 ≤ t.pos ∧ t.pos ≤ (s.size : Int)) → (∀ t ∈ (scanGo s f k out).1, 0 ≤ t.pos ∧ t.pos ≤ (s.size : Int)) ∧ 0 ≤ (scanGo s f k out).2.1 ∧ (scanGo s f k out).2.1 ≤ (s.size : Int)
  | 0, _, _, _ => by
    rw [scanGo]
    exact ⟨fun t ht => absurd ht (by simp), Int.le_refl _, by simp⟩
  | f + 1, k, out, h => by
    rw [scanGo]
    split
    · rename_i hk
      split
      · exact ⟨fun t ht => absurd ht (by simp), by simp, by simp; omega⟩
      · refine scanGo_pos s f _ _ fun t ht => ?_
        rcases List.mem_append.1 ht with ht | ht
        · exact h t ht
        · rw [List.mem_singleton.1 ht]
          exact ⟨by simp, by simp; omega⟩
    · refine ⟨fun t ht => ?_, by simp, by simp⟩
      rcases List.mem_append.1 ht with ht | ht
      · exact h t ht
      · rw [List.mem_singleton.1 ht]
        exact ⟨by simp, by simp⟩
theorem scanT_pos (s : ByteArray) : (∀ t ∈ (scanT s).1, 0 ≤ t.pos ∧ t.pos ≤ (s.size : Int)) ∧ 0 ≤ (scanT s).2.1 ∧ (scanT s).2.1 ≤ (s.size : Int) := by
  unfold scanT
  split
  · exact ⟨fun t ht => absurd ht (by simp), by simp, by simp⟩
  · exact scanGo_pos s _ _ [] fun t ht => absurd ht (by simp)
theorem parse_pos {s : ByteArray} {l : List Decl} {p e : Int} (he : e ≠ 0) (h : parseT s = (l, p, e)) : 0 ≤ p ∧ p ≤ (s.size : Int) := by
  obtain ⟨h1, h2⟩ := parseT_place he h
  obtain ⟨k1, k2⟩ := scanT_pos s
  by_cases hs : (scanT s).2.2 = 0
  · obtain ⟨t, ht, rfl⟩ := h2 hs
    exact k1 t ht
  · rw [(h1 hs).2]
    exact k2
theorem parseGo_len : ∀ (f : Nat) (out : List Decl) (s : PS) (l : List Decl) (p e : Int), out.length ≤ 1024 → parseGo f out s = (l, p, e) → l.length ≤ 1024
  | 0, _, _, _, _, _, _, h => by
    rw [parseGo] at h
    injection h with h1
    rw [← h1]; exact Nat.zero_le _
  | f + 1, out, s, l, p, e, ho, h => by
    rw [parseGo] at h
    split at h
    · injection h with h1
      rw [← h1]; exact ho
    · simp only at h
      by_cases hl : out.length = 1024
      · rw [if_pos hl] at h
        simp only at h
        split at h
        · injection h with h1
          rw [← h1]; exact Nat.zero_le _
        · exact parseGo_len f _ _ l p e ho h
      · rw [if_neg hl] at h
        simp only at h
        split at h
        · injection h with h1
          rw [← h1]; exact Nat.zero_le _
        · exact parseGo_len f _ _ l p e (by simp only [List.length_append, List.length_cons, List.length_nil]; omega) h
theorem parse_len {s : ByteArray} {l : List Decl} {p e : Int} (h : parseT s = (l, p, e)) : l.length ≤ 1024 := by
  unfold parseT at h
  split at h
  · injection h with h1
    rw [← h1]; exact Nat.zero_le _
  · exact parseGo_len _ _ _ _ _ _ (Nat.zero_le _) h
theorem append_declsG {ops : Array Oper} {rest : List Oper} {o : Oper} {a : Act} {Q : Exit → Act → World → Prop} {w : World} (hw : Region.wanted o (yielded ops a.tmps) = true) (s x : Operand)
    (ho : o.op = .call { callee := .builtin .append, args := #[s, x], argTypes := #[23, 23] })
    (base : Nat) (v : Value) (l : List DV) (hs : a.eval s = v) (hown : w.ownsRow base 38 6 v l.length (l.flatMap cellsD))
    (B : Nat) (A : Option Addr) (c : Nat) (m : List DV) (hx : a.eval x = .slice A m.length c) (hr : Reads w B 6 A m.length (m.flatMap cellsD)) (h1 : ∀ y ∈ m, y.2.1.oneCell' = true ∧ y.2.2.oneCell' = true)
    (hlen : l.length + m.length ≤ 1099511627776) (hbase : base ≤ w.heap.size)
    (h : ∀ v' w', w'.ownsRow base 38 6 v' (l ++ m).length ((l ++ m).flatMap cellsD) → w.grownBy w' v.ownBlock → (v'.ownBlock = v.ownBlock ∨ v'.ownBlock = some w.heap.size) → wpList Tryd.prog ops Q rest (a.put o.dst v') w') : wpList Tryd.prog ops Q (o :: rest) a w := by
  obtain ⟨i0, hi, hz0, hz1, hz2⟩ := info_parts infoD
  refine wpList_step fun _ hK => ?_
  rw [if_pos hw]
  refine wp_append_any w s x 23 ho base 38 i0 _ 6 88 Tryd.underlying23 hi hz0 hz1 hz2 rfl (by omega) v l.length (l.flatMap cellsD) hs hown B A m.length c (m.flatMap cellsD) hx hr ?_ ?_ ?_ hbase
    fun v' w' h2 h3 h4 => hK _ _ (h v' w' ?_ h3 h4)
  · intro u hu
    obtain ⟨y, hy, hu⟩ := List.mem_flatMap.1 hu
    have := h1 y hy
    simp [cellsD] at hu
    rcases hu with rfl | rfl | rfl | rfl | rfl | rfl
    · rfl
    · rfl
    · exact this.1
    · exact this.2
    · rfl
    · rfl
  · unfold maxLen; omega
  · omega
  · rw [List.flatMap_append, List.length_append]; exact h2
theorem own_lit0 (w : World) : (w.alloc (.cells #[] 38)).ownsRow w.heap.size 38 6 (.slice (some ⟨w.heap.size, 0, none⟩) 0 0) ([] : List DV).length (([] : List DV).flatMap cellsD) :=
  World.ownsRow_lit (e := 38) (size := 6) w #[] 0 (Nat.le_refl _) (by decide) (by simp)
theorem one_cells {w : World} {B : Nat} {A : Option Addr} {L : List DV} (h : DRow w B A L) : ∀ y ∈ L, y.2.1.oneCell' = true ∧ y.2.2.oneCell' = true := fun y hy => by
  obtain ⟨ra, rc, na, nc, e1, e2, _⟩ := h.2 y hy
  rw [e1, e2]
  exact ⟨rfl, rfl⟩

set_option maxRecDepth 100000 in
set_option maxHeartbeats 8000000 in
theorem parserJoins_walk (a b : ByteArray) (w : World) (ha : Asc w) (hsa : a.size ≤ 9223372036854775807) (hsb : b.size ≤ 9223372036854775807) :
    Calls Tryd.prog 3 #[.string a, .string b] w fun e w' => e = .returned (.bool true) ∧ Below w.heap.size w w' := by
  have HW := hide (awake18 w ha)
  have HA := hide ha
  clear ha
  by_cases hbig : 3000 < a.size
  · have hbI : (3000 : Int) < (a.size : Int) := by omega
    go_enter Tryd.func3, Tryd.ntmps3
    go_wp2_with (go_at_call 10; refine HW.out.mono ?_; rintro e w1 ⟨rfl, hb1⟩)
    go_ret
    exact ⟨rfl, hb1⟩
  have hbI : ¬ (3000 : Int) < (a.size : Int) := by omega
  by_cases hbig2 : 3000 < b.size
  · have hbI2 : (3000 : Int) < (b.size : Int) := by omega
    go_enter Tryd.func3, Tryd.ntmps3
    go_wp2_with (go_at_call 10; refine HW.out.mono ?_; rintro e w1 ⟨rfl, hb1⟩)
    go_ret
    exact ⟨rfl, hb1⟩
  have hbI2 : ¬ (3000 : Int) < (b.size : Int) := by omega
  have q1 : ∀ W, (Op.stringOp .add a (⟨#[10]⟩ : ByteArray)).run Tryd.prog W = .ok (.string (a ++ (⟨#[10]⟩ : ByteArray))) W := fun W => run_string_add_sum W _ _ (by have : ((⟨#[10]⟩ : ByteArray) : ByteArray).size = 1 := rfl; omega)
  have hs1 : (a ++ (⟨#[10]⟩ : ByteArray)).size = a.size + 1 := by rw [ByteArray.size_append]; rfl
  have q2 : ∀ W, (Op.stringOp .add (a ++ (⟨#[10]⟩ : ByteArray)) b).run Tryd.prog W = .ok (.string (a ++ (⟨#[10]⟩ : ByteArray) ++ b)) W := fun W => run_string_add_sum W _ _ (by omega)
  have hs2 : (a ++ (⟨#[10]⟩ : ByteArray) ++ b).size = a.size + 1 + b.size := by rw [ByteArray.size_append, hs1]
  have hbs : bs (a ++ (⟨#[10]⟩ : ByteArray) ++ b) = bs a ++ 10 :: bs b := by simp [bs, ByteArray.data_append]
  have HP1 := fun (X : World) (hX : Asc X) => parse_any a X hX hsa
  have HP2 := fun (X : World) (hX : Asc X) => parse_any b X hX hsb
  have HP3 := fun (X : World) (hX : Asc X) => parse_any (a ++ (⟨#[10]⟩ : ByteArray) ++ b) X hX (by omega)
  have hj := fun l p => parse_joins (a := a) (b := b) (s := a ++ (⟨#[10]⟩ : ByteArray) ++ b) (l := l) (p := p) (by omega) (by omega) hbs
  generalize a ++ (⟨#[10]⟩ : ByteArray) ++ b = s at q2 HP3 hj
  generalize a ++ (⟨#[10]⟩ : ByteArray) = s1 at q1 q2
  clear hs1 hs2 hbs
  have hla := fun l p e => parse_len (s := a) (l := l) (p := p) (e := e)
  have hlb := fun l p e => parse_len (s := b) (l := l) (p := p) (e := e)
  have hpos := fun l p e => parse_pos (s := b) (l := l) (p := p) (e := e)
  generalize parseT a = ra at HP1 hj hla
  generalize parseT b = rb at HP2 hj hlb hpos
  generalize parseT s = rs at HP3 hj
  obtain ⟨l, p, er⟩ := ra
  obtain ⟨k, q, fr⟩ := rb
  obtain ⟨m, t, gr⟩ := rs
  have HP1 := hide HP1
  have HP2 := hide HP2
  have HP3 := hide HP3
  have hla := hla l p er rfl
  have hlb := hlb k q fr rfl
  by_cases her : er = 0
  rotate_left
  · have b0 : ((er : Int) != 0) = true := by simpa using her
    clear hj her hpos
    go_enter Tryd.func3, Tryd.ntmps3
    go_wp2_with fail
    refine HW.out.mono ?_
    rintro e w1 ⟨rfl, hb1⟩
    go_wp2_with fail
    refine (HP1.out _ (Asc.below HA.out (Nat.le_refl _) hb1)).mono ?_
    rintro e w2 ⟨A2, c2, L2, rfl, hL2, hc2, hD2, hb2⟩
    have hb12 := hb1.trans (hb2.mono hb1.size)
    go_wp2_with fail
    refine (HP2.out _ (Asc.below HA.out (Nat.le_refl _) hb12)).mono ?_
    rintro e w3 ⟨A3, c3, L3, rfl, hL3, hc3, hD3, hb3⟩
    have hb13 := hb12.trans (hb3.mono hb12.size)
    go_wp2_with fail
    refine (HP3.out _ (Asc.below HA.out (Nat.le_refl _) hb13)).mono ?_
    rintro e w4 ⟨A4, c4, L4, rfl, hL4, hc4, hD4, hb4⟩
    have hb14 := hb13.trans (hb4.mono hb13.size)
    go_wp2_with fail
    go_ret
    exact ⟨rfl, hb14⟩
  subst her
  rcases hj l p rfl with ⟨k2, hk, hm⟩ | ⟨q2', e2, he2, hk, hm⟩
  · obtain ⟨rfl, rfl, rfl⟩ : k = k2 ∧ q = 0 ∧ fr = 0 := by injection hk with h1 h2; injection h2 with h2 h3; exact ⟨h1, h2, h3⟩
    obtain ⟨rfl, rfl, rfl⟩ : m = l ++ k ∧ t = 0 ∧ gr = 0 := by injection hm with h1 h2; injection h2 with h2 h3; exact ⟨h1, h2, h3⟩
    clear hk hm hj hpos
    go_enter Tryd.func3, Tryd.ntmps3
    go_wp2_with fail
    refine HW.out.mono ?_
    rintro e w1 ⟨rfl, hb1⟩
    go_wp2_with fail
    refine (HP1.out _ (Asc.below HA.out (Nat.le_refl _) hb1)).mono ?_
    rintro e w2 ⟨A2, c2, L2, rfl, hL2, hc2, hD2, hb2⟩
    have hb12 := hb1.trans (hb2.mono hb1.size)
    go_wp2_with fail
    refine (HP2.out _ (Asc.below HA.out (Nat.le_refl _) hb12)).mono ?_
    rintro e w3 ⟨A3, c3, L3, rfl, hL3, hc3, hD3, hb3⟩
    have hb13 := hb12.trans (hb3.mono hb12.size)
    go_wp2_with fail
    refine (HP3.out _ (Asc.below HA.out (Nat.le_refl _) hb13)).mono ?_
    rintro e w4 ⟨A4, c4, L4, rfl, hL4, hc4, hD4, hb4⟩
    have hb14 := hb13.trans (hb4.mono hb13.size)
    have hE2 := (hD2.below ((hb3.trans (hb4.mono hb3.size)))).more (Nat.le_trans hb3.size hb4.size)
    have hE3 := (hD3.below hb4).more hb4.size
    have HB := hide hb14
    have HL := hide (And.intro hL2 (And.intro hL3 hL4))
    have HE := hide (And.intro hE2 (And.intro hE3 hD4))
    clear hb1 hb2 hb3 hb4 hb12 hb13 hb14 hL2 hL3 hL4 hD2 hD3 hD4 hE2 hE3 HW HP1 HP2 HP3
    have hz2 : L2.length ≤ 1024 := by have := congrArg List.length HL.out.1; simp at this; omega
    have hz3 : L3.length ≤ 1024 := by have := congrArg List.length HL.out.2.1; simp at this; omega
    have hz4 : L4.length ≤ 2048 := by have := congrArg List.length HL.out.2.2; simp at this; omega
    go_wp2_with (first
      | (at_builtin; refine append_declsG (by rfl) _ _ rfl w4.heap.size _ [] rfl (own_lit0 w4) w4.heap.size _ c2 L2 rfl (Reads.alloc HE.out.1.1 (Nat.le_refl _) _) (one_cells HE.out.1) (by simp; omega) (by simp) ?_; intro v5 x5 hO5 hg5 _
         have hb5 : Below w4.heap.size w4 x5 := ((Below.refl _ _).alloc (Nat.le_refl _) (.cells #[] 38)).grown hg5 (by simp) (fun k hk => (World.ownsRow.lt (own_lit0 w4) k hk).1)
         clear hg5)
      | (at_builtin; go_loud (refine append_declsG (by rfl) _ _ rfl w4.heap.size _ ([] ++ L2) rfl hO5 w4.heap.size _ c3 L3 rfl (HE.out.2.1.1.below hb5) (one_cells HE.out.2.1) (by simp; omega) hb5.size ?_); intro v6 x6 hO6 hg6 _
         have hb6 : Below w4.heap.size w4 x6 := hb5.grown hg6 hb5.size (fun k hk => (World.ownsRow.lt hO5 k hk).1)
         have hD6 := own_dvs hO6 (fun x hx => ((List.mem_append.1 hx).elim (fun h => (HE.out.1.below hb6).2 x (by simpa using h)) (fun h => (HE.out.2.1.below hb6).2 x h))) hb6.size
         obtain ⟨A6, c6, rfl, hD6⟩ := hD6
         have hbx := HB.out.trans (hb6.mono HB.out.size)
         have hlm : (([] ++ L2 ++ L3 : List DV).map fun x => x.1) = l ++ k := (by rw [List.nil_append, List.map_append, HL.out.1, HL.out.2.1])
         have HSM := same_dv A4 A6 c4 c6 L4 (([] ++ L2 ++ L3 : List DV).map fun x => x.1) (n := ([] ++ L2 ++ L3 : List DV).length) (by simp) x6 ((HE.out.2.2.below hb6).more hb6.size) hD6.decls (by omega) (by simp; omega)
         rw [hlm, HL.out.2.2, sameL_refl3] at HSM
         obtain ⟨n6, hn6⟩ : ∃ n6, n6 = ([] ++ L2 ++ L3 : List DV).length := ⟨_, rfl⟩
         rw [← hn6] at HSM
         rw [← hn6]
         have HSM := hide HSM
         clear hD6 hO6 hg6 hO5 hb5 hb6 hlm hn6)
      | (go_at_call 12; refine HSM.out.mono ?_; rintro e w7 ⟨rfl, hb7⟩))
    go_ret
    exact ⟨rfl, hbx.trans (hb7.mono hbx.size)⟩
  · have hpos := hpos k q fr (by intro h; apply he2; injection hk with _ h2; injection h2 with _ h3; rw [← h3]; exact h) rfl
    obtain ⟨hk1, hk2, hk3⟩ : [] = k ∧ q2' = q ∧ e2 = fr := by injection hk with h1 h2; injection h2 with h2 h3; exact ⟨h1.symm, h2.symm, h3.symm⟩
    obtain ⟨hm1, hm2, hm3⟩ : [] = m ∧ q2' + ((a.size + 1 : Nat) : Int) = t ∧ e2 = gr := by injection hm with h1 h2; injection h2 with h2 h3; exact ⟨h1.symm, h2.symm, h3.symm⟩
    subst hk1 hk2 hk3 hm1 hm3
    have b1 : ((e2 : Int) != 0) = true := by simpa using he2
    have b2 : ((e2 : Int) == e2) = true := by simp
    have w1' : IntKind.i64.wrap (q2' + (a.size : Int)) = q2' + (a.size : Int) := IntWalk.i64_in _ (by omega)
    have w2' : IntKind.i64.wrap (q2' + (a.size : Int) + 1) = q2' + (a.size : Int) + 1 := IntWalk.i64_in _ (by omega)
    have b3 : ((t : Int) == q2' + (a.size : Int) + 1) = true := by simp; omega
    clear hk hm hj he2 hpos hm2
    go_enter Tryd.func3, Tryd.ntmps3
    go_wp2_with fail
    refine HW.out.mono ?_
    rintro e w1 ⟨rfl, hb1⟩
    go_wp2_with fail
    refine (HP1.out _ (Asc.below HA.out (Nat.le_refl _) hb1)).mono ?_
    rintro e w2 ⟨A2, c2, L2, rfl, hL2, hc2, hD2, hb2⟩
    have hb12 := hb1.trans (hb2.mono hb1.size)
    go_wp2_with fail
    refine (HP2.out _ (Asc.below HA.out (Nat.le_refl _) hb12)).mono ?_
    rintro e w3 ⟨A3, c3, L3, rfl, hL3, hc3, hD3, hb3⟩
    have hb13 := hb12.trans (hb3.mono hb12.size)
    go_wp2_with fail
    refine (HP3.out _ (Asc.below HA.out (Nat.le_refl _) hb13)).mono ?_
    rintro e w4 ⟨A4, c4, L4, rfl, hL4, hc4, hD4, hb4⟩
    have hb14 := hb13.trans (hb4.mono hb13.size)
    obtain rfl : L4 = [] := by simpa using hL4
    clear hb1 hb2 hb3 hb4 hb12 hb13 hL2 hL3 hL4 hD2 hD3 hD4 HW HP1 HP2 HP3
    go_wp2_with fail
    go_ret
    exact ⟨rfl, hb14⟩
end Go.Proofs.YtanhkeeifnimgaaDoor
