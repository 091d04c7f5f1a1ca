/- The walk of exoduslaw18.ParserSingle: it answers true. Conditions: the tables are laid; lengths that fit memory. -/
import Derived.Test.YtanhkeeifnimgaaGreatDoorLaw18t
import Derived.Test.YtanhkeeifnimgaaGreatDoorRef17e
import Derived.Test.YtanhkeeifnimgaaGreatDoorSyn17q
namespace Go.Proofs.YtanhkeeifnimgaaGreatDoor
open Go Go.RowKit Go.Proofs

/-- Text of a declaration by value -/
theorem text_of (d : Decl) (ra : Option Addr) (rc : Nat) (na : Option Addr) (nc : Nat) (w : World) (ha : Asc w) (hp : Pow w) (hf : Fine d) (hrc : d.refs.length ≤ rc) (hr : Strs w w.heap.size ra d.refs) (hn : Ints w w.heap.size na d.nums) :
    Calls Tryz.prog 11 #[.agg #[.int .i64 d.kind, .string d.name, .slice ra d.refs.length rc, .slice na d.nums.length nc, .int .i64 d.by_, .bool d.always]] w fun e w' => e = .returned (.string (textD d)) ∧ Below w.heap.size w w' :=
  text_prog d.kind d.name ra d.refs rc na d.nums nc d.by_ d.always w ha hp hf.1 hf.2.1 hf.2.2.1 hf.2.2.2 hrc hr hn
abbrev cellsOf (d : Decl) (ra : Option Addr) (rc : Nat) (na : Option Addr) (nc : Nat) : Array Value := #[.int .i64 d.kind, .string d.name, .slice ra d.refs.length rc, .slice na d.nums.length nc, .int .i64 d.by_, .bool d.always]
/-- two variables that hold declarations -/
def Two (g : Nat) (d o : Decl) (ra : Option Addr) (rc : Nat) (na : Option Addr) (nc : Nat) (ra1 : Option Addr) (rc1 : Nat) (na1 : Option Addr) (nc1 : Nat) (X : World) : Prop :=
  Blk X g 25 (cellsOf d ra rc na nc) ∧ Blk X (g + 1) 25 (cellsOf o ra1 rc1 na1 nc1) ∧ Strs X X.heap.size ra d.refs ∧ Ints X X.heap.size na d.nums ∧ Strs X X.heap.size ra1 o.refs ∧ Ints X X.heap.size na1 o.nums
theorem Two.below {g : Nat} {d o : Decl} {ra : Option Addr} {rc : Nat} {na : Option Addr} {nc : Nat} {ra1 : Option Addr} {rc1 : Nat} {na1 : Option Addr} {nc1 : Nat} {X Y : World} (h : Two g d o ra rc na nc ra1 rc1 na1 nc1 X) (hb : Below X.heap.size X Y) : Two g d o ra rc na nc ra1 rc1 na1 nc1 Y := by
  obtain ⟨h1, h2, h3, h4, h5, h6⟩ := h
  exact ⟨Blk.below h1 hb (Blk.lt h1), Blk.below h2 hb (Blk.lt h2), (Reads.below h3 hb).more hb.size, (Reads.below h4 hb).more hb.size, (Reads.below h5 hb).more hb.size, (Reads.below h6 hb).more hb.size⟩
theorem Two.cells {g : Nat} {d o : Decl} {ra : Option Addr} {rc : Nat} {na : Option Addr} {nc : Nat} {ra1 : Option Addr} {rc1 : Nat} {na1 : Option Addr} {nc1 : Nat} {X : World} (h : Two g d o ra rc na nc ra1 rc1 na1 nc1 X) :
    X.cell? ⟨g, 0, none⟩ = some (.int .i64 d.kind) ∧ X.cell? ⟨g, 1, none⟩ = some (.string d.name) ∧ X.cell? ⟨g, 2, none⟩ = some (.slice ra d.refs.length rc) ∧ X.cell? ⟨g, 3, none⟩ = some (.slice na d.nums.length nc) ∧ X.cell? ⟨g, 4, none⟩ = some (.int .i64 d.by_) ∧ X.cell? ⟨g, 5, none⟩ = some (.bool d.always) ∧
    X.cell? ⟨g + 1, 0, none⟩ = some (.int .i64 o.kind) ∧ X.cell? ⟨g + 1, 1, none⟩ = some (.string o.name) ∧ X.cell? ⟨g + 1, 2, none⟩ = some (.slice ra1 o.refs.length rc1) ∧ X.cell? ⟨g + 1, 3, none⟩ = some (.slice na1 o.nums.length nc1) ∧ X.cell? ⟨g + 1, 4, none⟩ = some (.int .i64 o.by_) ∧ X.cell? ⟨g + 1, 5, none⟩ = some (.bool o.always) ∧ g + 1 < X.heap.size :=
  ⟨Blk.cell h.1 0, Blk.cell h.1 1, Blk.cell h.1 2, Blk.cell h.1 3, Blk.cell h.1 4, Blk.cell h.1 5, Blk.cell h.2.1 0, Blk.cell h.2.1 1, Blk.cell h.2.1 2, Blk.cell h.2.1 3, Blk.cell h.2.1 4, Blk.cell h.2.1 5, Blk.lt h.2.1⟩
theorem fine0 : Fine zeroD := ⟨Nat.zero_le _, fun s hs => absurd hs (by simp [zeroD]), Nat.zero_le _, Nat.zero_le _⟩
theorem sameD_refl2 (d : Decl) : sameD d d = true := by simp [sameD]

set_option maxRecDepth 100000 in
set_option maxHeartbeats 8000000 in
theorem parserSingle_walk (d o : Decl) (ra : Option Addr) (rc : Nat) (na : Option Addr) (nc : Nat) (ra1 : Option Addr) (rc1 : Nat) (na1 : Option Addr) (nc1 : Nat) (w : World) (ha : Asc w) (hp : Pow w) (hf : Fine d) (hf1 : Fine o)
    (hc : d.refs.length ≤ rc ∧ d.nums.length ≤ nc) (hc1 : o.refs.length ≤ rc1 ∧ o.nums.length ≤ nc1) (hr : Strs w w.heap.size ra d.refs) (hn : Ints w w.heap.size na d.nums) (hr1 : Strs w w.heap.size ra1 o.refs) (hn1 : Ints w w.heap.size na1 o.nums) :
    Calls Tryz.prog 5 #[.agg (cellsOf d ra rc na nc), .agg (cellsOf o ra1 rc1 na1 nc1)] w fun e w' => e = .returned (.bool true) ∧ Below w.heap.size w w' := by
  have hB0 : Below w.heap.size w ((w.alloc (.cells (cellsOf d ra rc na nc) 25)).alloc (.cells (cellsOf o ra1 rc1 na1 nc1) 25)) := ((Below.refl _ _).alloc (Nat.le_refl _) _).alloc (by simp) _
  have hT0 : Two w.heap.size d o ra rc na nc ra1 rc1 na1 nc1 ((w.alloc (.cells (cellsOf d ra rc na nc) 25)).alloc (.cells (cellsOf o ra1 rc1 na1 nc1) 25)) :=
    ⟨Blk.alloc (Blk.new w _ _) _, by have := Blk.new (w.alloc (.cells (cellsOf d ra rc na nc) 25)) 25 (cellsOf o ra1 rc1 na1 nc1); simpa using this, (Reads.below hr hB0).more hB0.size, (Reads.below hn hB0).more hB0.size, (Reads.below hr1 hB0).more hB0.size, (Reads.below hn1 hB0).more hB0.size⟩
  have HW := hide (awake18 _ (Asc.below ha (Nat.le_refl _) hB0))
  have HA := hide ha
  have HP := hide hp
  have HT := hide hT0
  have HB := hide hB0
  clear ha hp hr hn hr1 hn1 hB0 hT0
  cases hv : okD d
  · go_enter Tryz.func5, Tryz.ntmps5
    go_wp2_with fail
    refine HW.out.mono ?_
    rintro e w1 ⟨rfl, hb1⟩
    have t1 := HT.out.below hb1
    have HV := valid_at d ra rc na nc w1 hf t1.2.2.1 t1.2.2.2.1
    rw [hv] at HV
    have HV := hide HV
    obtain ⟨c0, c1, c2, c3, c4, c5, c6, c7, c8, c9, c10, c11, cz⟩ := t1.cells
    have hbw := hide (HB.out.trans (hb1.mono HB.out.size))
    clear t1 hb1 HT HB HW
    go_wp2_with (go_at_call 9; refine HV.out.mono ?_; rintro e w2 ⟨rfl, hb2⟩)
    go_ret
    exact ⟨rfl, hbw.out.trans (hb2.mono hbw.out.size)⟩
  cases hv1 : okD o
  · go_enter Tryz.func5, Tryz.ntmps5
    go_wp2_with fail
    refine HW.out.mono ?_
    rintro e w1 ⟨rfl, hb1⟩
    have t1 := HT.out.below hb1
    have HV := valid_at d ra rc na nc w1 hf t1.2.2.1 t1.2.2.2.1
    rw [hv] at HV
    have HV := hide HV
    obtain ⟨c0, c1, c2, c3, c4, c5, c6, c7, c8, c9, c10, c11, cz⟩ := t1.cells
    have hbw := hide (HB.out.trans (hb1.mono HB.out.size))
    have HT1 := hide t1
    clear t1 hb1 HT HB HW
    go_wp2_with fail
    refine HV.out.mono ?_
    rintro e w2 ⟨rfl, hb2⟩
    clear c0 c1 c2 c3 c4 c5 c6 c7 c8 c9 c10 c11 cz
    have t2 := HT1.out.below hb2
    have HV2 := valid_at o ra1 rc1 na1 nc1 w2 hf1 t2.2.2.2.2.1 t2.2.2.2.2.2
    rw [hv1] at HV2
    have HV2 := hide HV2
    obtain ⟨c0, c1, c2, c3, c4, c5, c6, c7, c8, c9, c10, c11, cz⟩ := t2.cells
    have hbw2 := hide (hbw.out.trans (hb2.mono hbw.out.size))
    clear t2 hb2 hbw HT1
    go_wp2_with (go_at_call 9; refine HV2.out.mono ?_; rintro e w3 ⟨rfl, hb3⟩)
    go_ret
    exact ⟨rfl, hbw2.out.trans (hb3.mono hbw2.out.size)⟩
  · have hz1 := wt_text_le hv
    have hz2 := wt_text_le hv1
    have hpd := parseD_text hv
    have hp2 := fun (s : ByteArray) (hs : bs s = bs (textD d) ++ 32 :: bs (textD o)) => parseD_two hv hv1 hs
    have HX := fun (X : World) hA hP (h2 : Strs X X.heap.size ra d.refs) (h3 : Ints X X.heap.size na d.nums) => text_of d ra rc na nc X hA hP hf hc.1 h2 h3
    have HY := fun (X : World) hA hP (h2 : Strs X X.heap.size ra1 o.refs) (h3 : Ints X X.heap.size na1 o.nums) => text_of o ra1 rc1 na1 nc1 X hA hP hf1 hc1.1 h2 h3
    generalize textD d = s at hz1 hpd hp2 HX
    generalize textD o = u at hz2 hp2 HY
    have q1 : ∀ W, (Op.stringOp .add s (⟨#[32]⟩ : ByteArray)).run Tryz.prog W = .ok (.string (s ++ (⟨#[32]⟩ : ByteArray))) W := fun W => run_string_add_sum W _ _ (by have : ((⟨#[32]⟩ : ByteArray) : ByteArray).size = 1 := rfl; omega)
    have hs1 : (s ++ (⟨#[32]⟩ : ByteArray)).size = s.size + 1 := by rw [ByteArray.size_append]; rfl
    have q2 : ∀ W, (Op.stringOp .add (s ++ (⟨#[32]⟩ : ByteArray)) u).run Tryz.prog W = .ok (.string (s ++ (⟨#[32]⟩ : ByteArray) ++ u)) W := fun W => run_string_add_sum W _ _ (by omega)
    have hs2 : (s ++ (⟨#[32]⟩ : ByteArray) ++ u).size = s.size + 1 + u.size := by rw [ByteArray.size_append, hs1]
    have hbs : bs (s ++ (⟨#[32]⟩ : ByteArray) ++ u) = bs s ++ 32 :: bs u := by simp [bs, ByteArray.data_append]
    have HD1 := fun (X : World) (hA : Asc X) => parserDecl_any s X hA (by omega)
    rw [hpd] at HD1
    have HD2 := fun (X : World) (hA : Asc X) => parserDecl_any (s ++ (⟨#[32]⟩ : ByteArray) ++ u) X hA (by omega)
    rw [hp2 _ hbs] at HD2
    generalize s ++ (⟨#[32]⟩ : ByteArray) ++ u = v at q2 HD2
    generalize s ++ (⟨#[32]⟩ : ByteArray) = v1 at q1 q2
    have HX := hide HX
    have HY := hide HY
    have HD1 := hide HD1
    have HD2 := hide HD2
    have hwr : IntKind.i64.wrap ((s.size : Int) + 1) = (s.size : Int) + 1 := IntWalk.i64_in _ (by omega)
    have hpl : (((s.size + 1 : Nat) : Int) == (s.size : Int) + 1) = true := by simp
    clear hpd hp2 hs1 hs2 hbs
    go_enter Tryz.func5, Tryz.ntmps5
    go_wp2_with fail
    refine HW.out.mono ?_
    rintro e w1 ⟨rfl, hb1⟩
    have t1 := HT.out.below hb1
    have hbw1 := hide (HB.out.trans (hb1.mono HB.out.size))
    have HT1 := hide t1
    obtain ⟨c0, c1, c2, c3, c4, c5, c6, c7, c8, c9, c10, c11, cz⟩ := t1.cells
    have HV := valid_at d ra rc na nc w1 hf t1.2.2.1 t1.2.2.2.1
    rw [hv] at HV
    have HV := hide HV
    clear t1 hb1 HT HB HW
    go_wp2_with fail
    refine HV.out.mono ?_
    rintro e w2 ⟨rfl, hb2⟩
    clear c0 c1 c2 c3 c4 c5 c6 c7 c8 c9 c10 c11 cz
    have t2 := HT1.out.below hb2
    have hbw2 := hide (hbw1.out.trans (hb2.mono hbw1.out.size))
    have HT2 := hide t2
    obtain ⟨c0, c1, c2, c3, c4, c5, c6, c7, c8, c9, c10, c11, cz⟩ := t2.cells
    have HV2 := valid_at o ra1 rc1 na1 nc1 w2 hf1 t2.2.2.2.2.1 t2.2.2.2.2.2
    rw [hv1] at HV2
    have HV2 := hide HV2
    clear t2 hb2 HT1 hbw1 HV
    go_wp2_with fail
    refine HV2.out.mono ?_
    rintro e w3 ⟨rfl, hb3⟩
    clear c0 c1 c2 c3 c4 c5 c6 c7 c8 c9 c10 c11 cz
    have t3 := HT2.out.below hb3
    have hbw3 := hide (hbw2.out.trans (hb3.mono hbw2.out.size))
    have HT3 := hide t3
    obtain ⟨c0, c1, c2, c3, c4, c5, c6, c7, c8, c9, c10, c11, cz⟩ := t3.cells
    have HX3 := hide (HX.out w3 (Asc.below HA.out (Nat.le_refl _) hbw3.out) (Pow.below HP.out (Nat.le_refl _) hbw3.out) t3.2.2.1 t3.2.2.2.1)
    clear t3 hb3 HT2 hbw2 HV2 HX
    go_wp2_with fail
    refine HX3.out.mono ?_
    rintro e w4 ⟨rfl, hb4⟩
    clear c0 c1 c2 c3 c4 c5 c6 c7 c8 c9 c10 c11 cz
    have t4 := HT3.out.below hb4
    have hbw4 := hide (hbw3.out.trans (hb4.mono hbw3.out.size))
    have HT4 := hide t4
    obtain ⟨c0, c1, c2, c3, c4, c5, c6, c7, c8, c9, c10, c11, cz⟩ := t4.cells
    clear t4 hb4 HT3 hbw3 HX3
    go_wp2_with fail
    refine (HD1.out w4 (Asc.below HA.out (Nat.le_refl _) hbw4.out)).mono ?_
    rintro e w5 ⟨ra2, rc2, na2, nc2, he5, hl1, hl2, hr2, hn2, hf2, hb5⟩
    obtain rfl : e = .returned (.tuple #[.agg (cellsOf d ra2 rc2 na2 nc2), .int .i64 0, .int .i64 0]) := he5
    clear c0 c1 c2 c3 c4 c5 c6 c7 c8 c9 c10 c11 cz
    have t5 := HT4.out.below hb5
    have hbw5 := hide (hbw4.out.trans (hb5.mono hbw4.out.size))
    have HT5 := hide t5
    obtain ⟨c0, c1, c2, c3, c4, c5, c6, c7, c8, c9, c10, c11, cz⟩ := t5.cells
    have cz0 : w.heap.size < w5.heap.size := by omega
    have hba : Below w5.heap.size w5 (w5.alloc (.cells (cellsOf d ra2 rc2 na2 nc2) 25)) := (Below.refl _ _).alloc (Nat.le_refl _) _
    have t5a := t5.below hba
    have hbw5a := hide (hbw5.out.trans (hba.mono hbw5.out.size))
    have HT5a := hide t5a
    have HS1 := sameDecl_ref d d ra2 rc2 na2 nc2 ra rc na nc _ ((Reads.below hr2 hba).more hba.size) ((Reads.below hn2 hba).more hba.size) t5a.2.2.1 t5a.2.2.2.1 hf hf
    rw [sameD_refl2] at HS1
    have HS1 := hide HS1
    clear t5 t5a hb5 hba HT4 hbw4 HT5 hbw5 HD1 hr2 hn2 hf2 hl1 hl2
    go_wp2_with fail
    refine HS1.out.mono ?_
    rintro e w6 ⟨rfl, hb6⟩
    clear cz0
    clear c0 c1 c2 c3 c4 c5 c6 c7 c8 c9 c10 c11 cz
    have t6 := HT5a.out.below hb6
    have hbw6 := hide (hbw5a.out.trans (hb6.mono hbw5a.out.size))
    have HT6 := hide t6
    obtain ⟨c0, c1, c2, c3, c4, c5, c6, c7, c8, c9, c10, c11, cz⟩ := t6.cells
    have HY6 := hide (HY.out w6 (Asc.below HA.out (Nat.le_refl _) hbw6.out) (Pow.below HP.out (Nat.le_refl _) hbw6.out) t6.2.2.2.2.1 t6.2.2.2.2.2)
    clear t6 hb6 HT5a hbw5a HS1 HY
    go_wp2_with fail
    refine HY6.out.mono ?_
    rintro e w7 ⟨rfl, hb7⟩
    clear c0 c1 c2 c3 c4 c5 c6 c7 c8 c9 c10 c11 cz
    have hbw7 := hide (hbw6.out.trans (hb7.mono hbw6.out.size))
    clear hb7 HT6 hbw6 HY6
    go_wp2_with fail
    refine (HD2.out w7 (Asc.below HA.out (Nat.le_refl _) hbw7.out)).mono ?_
    rintro e w8 ⟨ra3, rc3, na3, nc3, he8, hl1, hl2, hr3, hn3, hf3, hb8⟩
    obtain rfl : e = .returned (.tuple #[.agg #[.int .i64 0, .string ⟨#[]⟩, .slice ra3 0 rc3, .slice na3 0 nc3, .int .i64 0, .bool false], .int .i64 ((s.size + 1 : Nat) : Int), .int .i64 3]) := he8
    have hba : Below w8.heap.size w8 (w8.alloc (.cells #[.int .i64 0, .string ⟨#[]⟩, .slice ra3 0 rc3, .slice na3 0 nc3, .int .i64 0, .bool false] 25)) := (Below.refl _ _).alloc (Nat.le_refl _) _
    have hbw8 := hbw7.out.trans (hb8.mono hbw7.out.size)
    have hbw8a := hide (hbw8.trans (hba.mono hbw8.size))
    have HS2 := sameDecl_ref zeroD zeroD ra3 rc3 na3 nc3 none 0 none 0 _ ((Reads.below hr3 hba).more hba.size) ((Reads.below hn3 hba).more hba.size) Reads.none_ Reads.none_ fine0 fine0
    rw [sameD_refl2] at HS2
    have HS2 := hide HS2
    obtain ⟨pl, hpe⟩ : ∃ pl : Int, pl = ((s.size + 1 : Nat) : Int) := ⟨_, rfl⟩
    rw [← hpe] at hpl
    rw [← hpe]
    clear hbw8 hb8 hba hbw7 HD2 hr3 hn3 hf3 hl1 hl2 hpe
    go_wp2_with fail
    refine HS2.out.mono ?_
    rintro e w9 ⟨rfl, hb9⟩
    go_wp2_with fail
    go_ret
    exact ⟨rfl, hbw8a.out.trans (hb9.mono hbw8a.out.size)⟩
end Go.Proofs.YtanhkeeifnimgaaGreatDoor
