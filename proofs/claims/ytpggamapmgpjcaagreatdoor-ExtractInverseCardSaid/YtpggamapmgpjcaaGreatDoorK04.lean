/- Slices of the call's own of structs whose cells are given by a function: append, and what they read as. Conditions: lengths that fit memory. Words for placements in memory: slices of units, rows of slices of units; appends to them. Conditions: none. The walks of exodusref15: Has, Letter, Digit, Keywords, IsName; of exodusref14.Exists, number, exodusref15.within, HasInt. Conditions: lengths that fit memory. -/
import Derived.Test.YtpggamapmgpjcaaGreatDoorK03
import Derived.Deep.RegionLaw
import Derived.Test.YtpggamapmgpjcaaGreatDoorProg
import Derived.Deep.RegionHeld3
import Derived.BigQuiet
import Derived.Deep.QuietTactic

namespace Go.Proofs.YtpggamapmgpjcaaGreatDoor
open Go Go.RowKit Go.Proofs

/-- a kind of elements: their type, how many cells they have, and which -/
structure El (α : Type) where
  T : TypeId
  sz : Nat
  f : α → List Value
  len : ∀ x, (f x).length = sz
  one : ∀ x, ∀ u ∈ f x, u.oneCell' = true
  pos : 0 < sz
section
variable {α : Type} (E : El α)
def elCells (l : List α) : List Value := l.flatMap E.f
theorem elCells_len (l : List α) : (elCells E l).length = l.length * E.sz := by
  induction l with
  | nil => simp [elCells]
  | cons b l ih => simp only [elCells, List.flatMap_cons, List.length_append, E.len, List.length_cons] at ih ⊢; rw [ih, Nat.add_mul]; omega
theorem elCells_append (a b : List α) : elCells E (a ++ b) = elCells E a ++ elCells E b := by simp [elCells]
theorem elCells_one (l : List α) : ∀ u ∈ elCells E l, u.oneCell' = true := by
  intro u hu
  simp only [elCells, List.mem_flatMap] at hu
  obtain ⟨b, _, hu⟩ := hu
  exact E.one b u hu
theorem elCells_at (l : List α) : ∀ k (hk : k < l.length) (j : Nat) (u : Value), (E.f l[k])[j]? = some u → (elCells E l)[k * E.sz + j]? = some u := by
  induction l with
  | nil => intro k hk; simp at hk
  | cons b l ih =>
    intro k hk j u hu
    have hj : j < E.sz := by have := (List.getElem?_eq_some_iff.1 hu).1; rwa [E.len] at this
    cases k with
    | zero =>
      simp only [elCells, List.flatMap_cons, Nat.zero_mul, Nat.zero_add]
      rw [List.getElem?_append_left (by rw [E.len]; exact hj)]
      exact hu
    | succ k =>
      have := ih k (by simpa using hk) j u hu
      simp only [elCells, List.flatMap_cons]
      rw [List.getElem?_append_right (by rw [E.len, Nat.add_mul]; omega), E.len]
      have e : (k + 1) * E.sz + j - E.sz = k * E.sz + j := by rw [Nat.add_mul]; omega
      rw [e]
      exact this
/-- a slice of elements of the call's own -/
def OwnE_ (B : Nat) (w : World) (v : Value) (l : List α) : Prop := w.ownsRow B E.T E.sz v l.length (elCells E l)
/-- a slice that reads as a list -/
def RdE (w : World) (A : Option Addr) (l : List α) : Prop := ∀ k (_ : k < l.length), ∃ b off, A = some ⟨b, off, none⟩ ∧ b < w.heap.size ∧ ∀ (j : Nat) (u : Value), (E.f l[k])[j]? = some u → w.cell? ⟨b, off + k * E.sz + j, none⟩ = some u
variable {E} {B : Nat} {w w' : World} {v : Value} {l : List α} {A : Option Addr}
theorem OwnE_.nil_ (B : Nat) (w : World) : OwnE_ E B w (.slice none 0 0) [] := World.ownsRow_nil _ _ _ _
theorem OwnE_.empty (w : World) (hB : B ≤ w.heap.size) : OwnE_ E B (w.alloc (.cells #[] E.T)) (.slice (some ⟨w.heap.size, 0, none⟩) 0 0) [] := by
  have := World.ownsRow_lit (e := E.T) (size := E.sz) w #[] 0 hB (by decide) (by simp)
  simpa [OwnE_, elCells] using this
theorem OwnE_.lt (h : OwnE_ E B w v l) : ∀ k, v.ownBlock = some k → B ≤ k ∧ k < w.heap.size := World.ownsRow.lt h
theorem OwnE_.below (h : OwnE_ E B w v l) (hb : Below w.heap.size w w') : OwnE_ E B w' v l := by
  refine ⟨h.1, ?_⟩
  rcases h.2 with h0 | ⟨g, cap, cur, e, hb0, hh, h4⟩
  · exact .inl h0
  · exact .inr ⟨g, cap, cur, e, hb0, Blk.below hh hb (Blk.lt hh), h4⟩
theorem OwnE_.ne {g : Nat} {T : TypeId} {cs : Array Value} (h : OwnE_ E B w v l) (hb : Blk w g T cs) (hne : T ≠ E.T) : v.ownBlock ≠ some g := by
  rintro e
  rcases h.2 with ⟨rfl, _⟩ | ⟨g2, cap, cur, rfl, _, hh, _⟩
  · cases e
  · obtain rfl : g2 = g := Option.some.inj e
    rw [Blk] at hb
    have := hb.symm.trans hh
    simp at this
    exact hne this.2
theorem OwnE_.kept (h : OwnE_ E B w v l) {row : Option Nat} (hg : w.grownBy w' row) (hne : v.ownBlock = none ∨ v.ownBlock ≠ row) : OwnE_ E B w' v l := World.ownsRow.kept h hg hne
theorem OwnE_.form (h : OwnE_ E B w v l) : ∃ A c, v = .slice A l.length c ∧ l.length ≤ c ∧ c ≤ maxLen := by
  rcases h.2 with ⟨rfl, h0⟩ | ⟨g, cap, cur, rfl, _, _, hc, hm, _⟩
  · have : l = [] := List.eq_nil_of_length_eq_zero h0
    subst this
    exact ⟨none, 0, rfl, Nat.le_refl _, by decide⟩
  · exact ⟨_, cap, rfl, hc, hm⟩
theorem OwnE_.rd (h : OwnE_ E B w v l) : ∃ A c, v = .slice A l.length c ∧ RdE E w A l := by
  rcases h.2 with ⟨rfl, h0⟩ | ⟨g, cap, cur, rfl, _, hh, hc, hm, _, ht⟩
  · have : l = [] := List.eq_nil_of_length_eq_zero h0
    subst this
    exact ⟨none, 0, rfl, fun k hk => absurd hk (by simp)⟩
  · refine ⟨_, cap, rfl, fun k hk => ⟨g, 0, rfl, Blk.lt hh, fun j u hu => ?_⟩⟩
    have h1 := elCells_at E l k hk j u hu
    rw [Nat.zero_add, Blk.cell hh (k * E.sz + j)]
    rw [← ht, List.getElem?_take] at h1
    split at h1
    · simpa using h1
    · cases h1
theorem RdE.grow (h : RdE E w A l) (hb : Below w.heap.size w w') : RdE E w' A l := fun k hk => by
  obtain ⟨b, off, e, hl, hc⟩ := h k hk
  exact ⟨b, off, e, Nat.lt_of_lt_of_le hl hb.size, fun j u hu => (hb.cell (p := ⟨b, off + k * E.sz + j, none⟩) hl).trans (hc j u hu)⟩
theorem RdE.nil_ : RdE E w A ([] : List α) := fun k hk => absurd hk (by simp)
/-- a row just made -/
theorem Reads.newE (w : World) (x : α) : Reads (w.alloc (.cells (E.f x).toArray E.T)) (w.heap.size + 1) E.sz (some ⟨w.heap.size, 0, none⟩) 1 (elCells E [x]) :=
  ⟨by rw [elCells_len]; rfl, fun _ => ⟨_, rfl, by simp, fun j u hu => by rw [add_none, Nat.zero_add, cell?_new]; simpa [elCells] using hu⟩⟩
/-- a slice that reads as a list, as cells -/
theorem RdE.reads (h : RdE E w A l) : Reads w w.heap.size E.sz A l.length (elCells E l) := by
  refine ⟨elCells_len E l, fun h0 => ?_⟩
  obtain ⟨b, off, e, hl, _⟩ := h 0 h0
  refine ⟨_, e, hl, fun j u hu => ?_⟩
  have hj : j < l.length * E.sz := by have := (List.getElem?_eq_some_iff.1 hu).1; rwa [elCells_len] at this
  have hp := E.pos
  have hk : j / E.sz < l.length := Nat.div_lt_of_lt_mul (by rw [Nat.mul_comm]; exact hj)
  obtain ⟨b2, off2, e2, _, hc⟩ := h (j / E.sz) hk
  rw [e] at e2
  injection e2 with e2
  injection e2 with e3 e4 _
  subst e3 e4
  have hm : j % E.sz < E.sz := Nat.mod_lt _ hp
  have hjj : j / E.sz * E.sz + j % E.sz = j := by have := Nat.div_add_mod j E.sz; rw [Nat.mul_comm] at this; exact this
  have hu2 : (E.f l[j / E.sz])[j % E.sz]? = some u := by
    have h2 : j % E.sz < (E.f l[j / E.sz]).length := by rw [E.len]; exact hm
    have h3 := elCells_at E l (j / E.sz) hk (j % E.sz) _ (List.getElem?_eq_getElem h2)
    rw [hjj, hu] at h3
    rw [List.getElem?_eq_getElem h2]
    exact h3.symm
  have := hc _ _ hu2
  rw [show (⟨b, off, none⟩ : Addr).add j = ⟨b, off + j, none⟩ from add_none _ _ _]
  rw [← this]
  congr 2
  omega
end
section
variable {α : Type} {E : El α} {z : Value} {bytes : Nat} {sT : TypeId}
/-- what the append law asks of a kind of elements -/
structure ElOk (E : El α) (sT : TypeId) (z : Value) (bytes : Nat) : Prop where
  info : (Tryz.prog.info? E.T).map (fun i => (i.zero, i.size, i.bytes)) = some (some z, E.sz, bytes)
  und : Tryz.prog.underlying sT = some (.slice E.T)
  zs : z.cells.size = E.sz
  small : bytes ≤ 1000
theorem append_el (K : ElOk E sT z bytes) {ops : Array Oper} {rest : List Oper} {o : Oper} {a : Act} {Q : Exit → Act → World → Prop} {w : World} (hgd : o.guard = none) (s x : Operand)
    (ho : o.op = .call { callee := .builtin .append, args := #[s, x], argTypes := #[sT, sT] })
    (base : Nat) (v : Value) (l : List α) (hs : a.eval s = v) (hown : OwnE_ E base w v l)
    (B : Nat) (A : Option Addr) (m c : Nat) (l2 : List α) (hx : a.eval x = .slice A m c) (hr : Reads w B E.sz A m (elCells E l2)) (hm : l2.length = m)
    (hlen : l.length + l2.length ≤ 1000000) (hbase : base ≤ w.heap.size)
    (h : ∀ v' w', OwnE_ E base w' v' (l ++ l2) → w.grownBy w' v.ownBlock → (v'.ownBlock = v.ownBlock ∨ v'.ownBlock = some w.heap.size) → wpList Tryz.prog ops Q rest (a.put o.dst v') w') : wpList Tryz.prog ops Q (o :: rest) a w := by
  obtain ⟨i0, hi, hz0, hz1, hz2⟩ := info_parts K.info
  have hb := K.small
  have hsz : (l.length + m) * bytes ≤ 1000000 * 1000 := Nat.mul_le_mul (by omega) hb
  refine wpList_plain hgd fun _ hK => wp_append_any w s x sT ho base E.T i0 _ E.sz bytes K.und hi hz0 hz1 hz2 K.zs E.pos v l.length (elCells E l) hs hown B A m c (elCells E l2) hx hr (elCells_one E l2) (by unfold maxLen; omega) (by omega) hbase
    fun v' w' h2 h3 h4 => hK _ _ (h v' w' ?_ h3 h4)
  unfold OwnE_; rw [elCells_append, List.length_append, hm]; exact h2
theorem step_append_el (K : ElOk E sT z bytes) {ops : Array Oper} {o : Oper} {a : Act} {Kt : Act → World → Prop} {Q : Exit → Act → World → Prop} {X : Prop} {w : World} (hgd : o.guard = none) (s x : Operand)
    (ho : o.op = .call { callee := .builtin .append, args := #[s, x], argTypes := #[sT, sT] })
    (base : Nat) (v : Value) (l : List α) (hs : a.eval s = v) (hown : OwnE_ E base w v l)
    (B : Nat) (A : Option Addr) (m c : Nat) (l2 : List α) (hx : a.eval x = .slice A m c) (hr : Reads w B E.sz A m (elCells E l2)) (hm : l2.length = m)
    (hlen : l.length + l2.length ≤ 1000000) (hbase : base ≤ w.heap.size)
    (h : ∀ v' w', OwnE_ E base w' v' (l ++ l2) → w.grownBy w' v.ownBlock → (v'.ownBlock = v.ownBlock ∨ v'.ownBlock = some w.heap.size) → Kt (a.put o.dst v') w') :
    if Region.wanted o (yielded ops a.tmps) = true then Oper.wp Tryz.prog o a w Kt Q else X := by
  have hw : Region.wanted o (yielded ops a.tmps) = true := by simp [Region.wanted, hgd]
  rw [if_pos hw]
  obtain ⟨i0, hi, hz0, hz1, hz2⟩ := info_parts K.info
  have hb := K.small
  have hsz : (l.length + m) * bytes ≤ 1000000 * 1000 := Nat.mul_le_mul (by omega) hb
  refine wp_append_any w s x sT ho base E.T i0 _ E.sz bytes K.und hi hz0 hz1 hz2 K.zs E.pos v l.length (elCells E l) hs hown B A m c (elCells E l2) hx hr (elCells_one E l2) (by unfold maxLen; omega) (by omega) hbase
    fun v' w' h2 h3 h4 => h v' w' ?_ h3 h4
  unfold OwnE_; rw [elCells_append, List.length_append, hm]; exact h2
end
end Go.Proofs.YtpggamapmgpjcaaGreatDoor

namespace Go.Proofs.YtpggamapmgpjcaaGreatDoor
open Go Go.RowKit Go.Proofs

/-- all blocks of element type T are as they were -/
def KT (T : TypeId) (w w' : World) : Prop := w.heap.size ≤ w'.heap.size ∧ ∀ (g : Nat) (cur : Array Value), Blk w g T cur → Blk w' g T cur
section
variable {T T' : TypeId} {w w' w'' : World}
theorem KT.refl (T : TypeId) (w : World) : KT T w w := ⟨Nat.le_refl _, fun _ _ h => h⟩
theorem KT.trans (h : KT T w w') (h' : KT T w' w'') : KT T w w'' := ⟨Nat.le_trans h.1 h'.1, fun g cur hb => h'.2 g cur (h.2 g cur hb)⟩
theorem KT.below (h : Below w.heap.size w w') : KT T w w' := ⟨h.size, fun _ _ hb => hb.below h hb.lt⟩
theorem KT.alloc (w : World) (o : Obj) : KT T w (w.alloc o) := ⟨by simp, fun _ _ hb => hb.alloc o⟩
theorem KT.drew (w : World) : KT T w w.drew := ⟨Nat.le_refl _, fun _ _ hb => hb⟩
theorem KT.grown {B k n : Nat} {v : Value} {xs : List Value} (hown : w.ownsRow B T' k v n xs) (hne : T ≠ T') (hg : w.grownBy w' v.ownBlock) : KT T w w' := by
  refine ⟨hg.size, fun g cur hb => hb.grown hg fun e => ?_⟩
  rcases hown.2 with ⟨rfl, _⟩ | ⟨g2, cap, cur2, rfl, _, hh, _⟩
  · cases e
  · obtain rfl : g = g2 := Option.some.inj e
    rw [show w.heap[g]? = some (.cells cur T (0, 0)) from hb] at hh
    simp at hh
    exact hne hh.2
theorem KT.set_ {g : Nat} {cs : Array Value} (h : Blk w g T' cs) (hne : T ≠ T') (i : Nat) (v : Value) : KT T w (w.setCell ⟨g, i, none⟩ v) := by
  refine ⟨by simp, fun g2 cur hb => hb.far (fun e => ?_) v⟩
  simp only at e
  subst e
  rw [Blk] at hb h
  rw [hb] at h
  simp at h
  exact hne h.2
end
def unitCells (l : List UnitM) : List Value := l.flatMap fun u => [.int .i64 u.1, .int .i64 u.2]
theorem unitCells_len (l : List UnitM) : (unitCells l).length = l.length * 2 := by
  induction l with
  | nil => rfl
  | cons a l ih => simp [unitCells] at ih ⊢; omega
theorem unitCells_append (a b : List UnitM) : unitCells (a ++ b) = unitCells a ++ unitCells b := by simp [unitCells]
theorem unitCells_at : ∀ (l : List UnitM) (i : Nat) (hi : i < l.length), (unitCells l)[i * 2]? = some (.int .i64 l[i].1) ∧ (unitCells l)[i * 2 + 1]? = some (.int .i64 l[i].2)
  | u :: l, 0, _ => ⟨rfl, rfl⟩
  | u :: l, i + 1, hi => by
    have := unitCells_at l i (by simpa using hi)
    simp only [List.getElem_cons_succ]
    rw [show (i + 1) * 2 = i * 2 + 2 by omega]
    exact this
theorem unitCells_one (l : List UnitM) : ∀ u ∈ unitCells l, u.oneCell' = true := by
  intro u hu
  simp only [unitCells, List.mem_flatMap] at hu
  obtain ⟨x, _, hx⟩ := hu
  simp at hx
  rcases hx with rfl | rfl <;> rfl
theorem unitCells_drop (l : List UnitM) : ∀ i, (unitCells l).drop (i * 2) = unitCells (l.drop i) := by
  induction l with
  | nil => intro i; simp [unitCells]
  | cons a l ih =>
    intro i
    match i with
    | 0 => simp
    | i + 1 =>
      have := ih i
      rw [show (i + 1) * 2 = i * 2 + 2 by omega]
      simpa [unitCells] using this
theorem unitCells_take (l : List UnitM) : ∀ i, (unitCells l).take (i * 2) = unitCells (l.take i) := by
  induction l with
  | nil => intro i; simp [unitCells]
  | cons a l ih =>
    intro i
    match i with
    | 0 => simp [unitCells]
    | i + 1 =>
      have := ih i
      rw [show (i + 1) * 2 = i * 2 + 2 by omega]
      simpa [unitCells] using this
end Go.Proofs.YtpggamapmgpjcaaGreatDoor

namespace Go.Proofs.YtpggamapmgpjcaaGreatDoor
open Go Go.RowKit

set_option maxHeartbeats 400000 in
theorem has_any (A : Option Addr) (c : Nat) (l : List ByteArray) (s : ByteArray) (w : World) (hl : l.length ≤ 9223372036854775807) (h : Strs w w.heap.size A l) :
    Calls Tryz.prog 167 #[.slice A l.length c, .string s] w fun e w' => e = .returned (.bool (hasS l s)) ∧ w = w' := by
  go_enter Tryz.func167, Tryz.ntmps167
  go_wp2
  go_loop [5] (fun i => ∃ k : Nat, k ≤ l.length ∧ i = .int .i64 k ∧ ∀ j (hj : j < l.length), j < k → l[j] ≠ s) (fun i => l.length - (intOf i).toNat)
  case atStart => exact ⟨0, Nat.zero_le _, rfl, fun j hj h0 => absurd h0 (by omega)⟩
  case round =>
    obtain ⟨k, hk, rfl, hs⟩ := hrel
    have HS := hide hs; clear hs
    by_cases hlt : k < l.length
    · obtain ⟨ad, rfl, hb, hc⟩ := h.at_ hlt
      by_cases he : l[k] = s
      · have hq := toList_beq_true he
        have hm : hasS l s = true := by rw [hasS_iff, ← he]; exact List.getElem_mem _
        have HE := hide he; clear he
        have HM := hide hm; clear hm
        go_wp2
        go_ret
        exact ⟨ret_congr (by rw [HM.out]; rfl), rfl⟩
      · have hq := toList_beq_false he
        have HE := hide he; clear he
        go_wp2
        go_round
        case rel => exact ⟨k + 1, by omega, by go_num, fun j hj h1 => by
          rcases Nat.lt_or_ge j k with h2 | h2
          · exact HS j hj h2
          · obtain rfl : j = k := by omega
            exact HE⟩
        case measure => simp [intOf]; omega
    · have hm : hasS l s = false := by
        rw [Bool.eq_false_iff, Ne, hasS_iff]
        intro hm; obtain ⟨j, hj, e⟩ := List.getElem_of_mem hm; exact HS j hj (by omega) e
      have HM := hide hm; clear hm
      go_wp2
      go_ret
      exact ⟨ret_congr (by rw [HM.out]; rfl), rfl⟩
set_option maxHeartbeats 400000 in
theorem letter_any (c : Int) (w : World) : Calls Tryz.prog 182 #[.int .u8 c] w fun e w' => e = .returned (.bool (letterI c)) ∧ w = w' := by
  by_cases h1 : 97 ≤ c <;> by_cases h2 : c ≤ 122
  all_goals
    have hL : letterI c = (decide (97 ≤ c) && decide (c ≤ 122)) := rfl
    have HL := hide hL; clear hL
    go_enter Tryz.func182, Tryz.ntmps182
    go_wp2
    go_ret
    exact ⟨ret_congr (by rw [HL.out]; simp [*]), rfl⟩
set_option maxHeartbeats 400000 in
theorem digit_any (c : Int) (w : World) : Calls Tryz.prog 184 #[.int .u8 c] w fun e w' => e = .returned (.bool (digitI c)) ∧ w = w' := by
  by_cases h1 : 48 ≤ c <;> by_cases h2 : c ≤ 57
  all_goals
    have hL : digitI c = (decide (48 ≤ c) && decide (c ≤ 57)) := rfl
    have HL := hide hL; clear hL
    go_enter Tryz.func184, Tryz.ntmps184
    go_wp2
    go_ret
    exact ⟨ret_congr (by rw [HL.out]; simp [*]), rfl⟩
set_option maxHeartbeats 400000 in
theorem keywords_any (w : World) : Calls Tryz.prog 183 #[] w fun e w' => ∃ A, e = .returned (.slice A keywords.length keywords.length) ∧ Strs w' w'.heap.size A keywords ∧ Below w.heap.size w w' := by
  go_enter Tryz.func183, Tryz.ntmps183
  go_wp2
  go_ret
  exact ⟨some ⟨w.heap.size, 0, none⟩, rfl, (Strs.newRow w 9 keywords).more (by simp), (Below.refl _ _).alloc (Nat.le_refl _) _⟩
set_option maxHeartbeats 1000000 in
theorem isName_ref (s : ByteArray) (w : World) (hs : s.size ≤ 9223372036854775807) :
    Calls Tryz.prog 166 #[.string s] w fun e w' => e = .returned (.bool (isName s)) ∧ Below w.heap.size w w' := by
  by_cases h1 : s.size < 1
  · have HN := hide (isName_short h1)
    go_enter Tryz.func166, Tryz.ntmps166
    go_wp2
    go_ret
    exact ⟨ret_congr (by rw [HN.out]; rfl), Below.refl _ _⟩
  by_cases h2 : 31 < s.size
  · have HN := hide (isName_long h2)
    go_enter Tryz.func166, Tryz.ntmps166
    go_wp2
    go_ret
    exact ⟨ret_congr (by rw [HN.out]; rfl), Below.refl _ _⟩
  cases h3 : letterI s[0].toNat
  · have HN := hide (isName_first (by omega) h3)
    go_enter Tryz.func166, Tryz.ntmps166
    go_wp2_with (go_at_call 182; refine (letter_any _ _).mono ?_; rintro e w' ⟨rfl, rfl⟩)
    go_ret
    exact ⟨ret_congr (by rw [HN.out]; rfl), Below.refl _ _⟩
  cases hb : hasS keywords s
  rotate_left
  · have HN := hide (isName_key hb)
    have HB := hide hb
    go_enter Tryz.func166, Tryz.ntmps166
    go_wp2_with (first
      | (go_at_call 182; refine (letter_any _ _).mono ?_; rintro e w' ⟨rfl, rfl⟩)
      | (go_at_call 183; refine (keywords_any _).mono ?_; rintro e w1 ⟨A, rfl, hA, hw1⟩)
      | (go_at_call 167; refine (has_any A _ keywords s _ (by decide) hA).mono ?_; rintro e w' ⟨rfl, rfl⟩))
    go_ret
    exact ⟨ret_congr (by rw [HN.out]; rfl), hw1⟩
  · go_enter Tryz.func166, Tryz.ntmps166
    go_wp2_with (first
      | (go_at_call 182; refine (letter_any _ _).mono ?_; rintro e w' ⟨rfl, rfl⟩)
      | (go_at_call 183; refine (keywords_any _).mono ?_; rintro e w1 ⟨A, rfl, hA, hw1⟩)
      | (go_at_call 167; refine (has_any A _ keywords s _ (by decide) hA).mono ?_; rintro e w' ⟨rfl, rfl⟩))
    have HW := hide hw1; clear hw1
    have H3 := hide h3; clear h3
    have HB := hide hb; clear hb
    clear hA
    go_loop [3] (fun i => ∃ k : Nat, k ≤ s.size ∧ i = .int .i64 k ∧ ∀ j (hj : j < s.size), j < k → nameI s[j].toNat = true) (fun i => s.size - (intOf i).toNat)
    case atStart => exact ⟨0, Nat.zero_le _, rfl, fun j hj h0 => absurd h0 (by omega)⟩
    case round =>
      obtain ⟨k, hk, rfl, hn⟩ := hrel
      have HN := hide hn; clear hn
      by_cases hlt : k < s.size
      · cases hx : nameI s[k].toNat
        · obtain ⟨e1, e2, e3⟩ := nameI_false hx
          have HX := hide hx; clear hx
          go_wp2_with (first
            | (go_at_call 182; refine (letter_any _ _).mono ?_; rintro e w' ⟨rfl, rfl⟩)
            | (go_at_call 184; refine (digit_any _ _).mono ?_; rintro e w' ⟨rfl, rfl⟩))
          go_ret
          exact ⟨ret_congr (by rw [isName_at hlt HX]; rfl), HW.out⟩
        · rcases nameI_true hx with e1 | ⟨e1, e2⟩ | ⟨e1, e2, e3⟩
          all_goals
            have HX := hide hx; clear hx
            go_wp2_with (first
              | (go_at_call 182; refine (letter_any _ _).mono ?_; rintro e w' ⟨rfl, rfl⟩)
              | (go_at_call 184; refine (digit_any _ _).mono ?_; rintro e w' ⟨rfl, rfl⟩))
            go_round
            case rel => exact ⟨k + 1, by omega, by go_num, fun j hj h1 => by
              rcases Nat.lt_or_ge j k with h2 | h2
              · exact HN j hj h2
              · obtain rfl : j = k := by omega
                exact HX⟩
            case measure => simp [intOf]; omega
      · go_wp2
        go_ret
        exact ⟨ret_congr (by rw [isName_true (by omega) (by omega) H3.out HB.out (fun j hj => HN.out j hj (by omega))]; rfl), HW.out⟩
end Go.Proofs.YtpggamapmgpjcaaGreatDoor
namespace Go.Proofs.YtpggamapmgpjcaaGreatDoor
open Go Go.RowKit Go.Proofs
set_option maxHeartbeats 400000 in
theorem exists_ref (n l : Int) (w : World) : Calls Tryz.prog 108 #[.int .i64 n, .int .i64 l] w fun e w' => e = .returned (.bool (exI n l)) ∧ w = w' := by
  by_cases h1 : 1 ≤ n <;> by_cases h2 : n ≤ l
  all_goals
    have hL : exI n l = (decide (1 ≤ n) && decide (n ≤ l)) := rfl
    have HL := hide hL; clear hL
    go_enter Tryz.func108, Tryz.ntmps108
    go_wp2
    go_ret
    exact ⟨ret_congr (by rw [HL.out]; simp [*]), rfl⟩
set_option maxHeartbeats 400000 in
theorem number_ref (n : Int) (w : World) : Calls Tryz.prog 162 #[.int .i64 n] w fun e w' => e = .returned (.bool (wiI n 0 1048576)) ∧ w = w' := by
  by_cases h1 : 0 ≤ n <;> by_cases h2 : n ≤ 1048576
  all_goals
    have hL : wiI n 0 1048576 = (decide (0 ≤ n) && decide (n ≤ 1048576)) := rfl
    have HL := hide hL; clear hL
    go_enter Tryz.func162, Tryz.ntmps162
    go_wp2
    go_ret
    exact ⟨ret_congr (by rw [HL.out]; simp [*]), rfl⟩
set_option maxHeartbeats 400000 in
theorem within_ref (n a b : Int) (w : World) : Calls Tryz.prog 109 #[.int .i64 n, .int .i64 a, .int .i64 b] w fun e w' => e = .returned (.bool (wiI n a b)) ∧ w = w' := by
  by_cases h1 : a ≤ n <;> by_cases h2 : n ≤ b
  all_goals
    have hL : wiI n a b = (decide (a ≤ n) && decide (n ≤ b)) := rfl
    have HL := hide hL; clear hL
    go_enter Tryz.func109, Tryz.ntmps109
    go_wp2
    go_ret
    exact ⟨ret_congr (by rw [HL.out]; simp [*]), rfl⟩
set_option maxHeartbeats 400000 in
theorem hasInt_ref (A : Option Addr) (c : Nat) (l : List Int) (s : Int) (w : World) (hl : l.length ≤ 9223372036854775807) (h : Ints w w.heap.size A l) :
    Calls Tryz.prog 110 #[.slice A l.length c, .int .i64 s] w fun e w' => e = .returned (.bool (decide (s ∈ l))) ∧ w = w' := by
  go_enter Tryz.func110, Tryz.ntmps110
  go_wp2
  go_loop [5] (fun i => ∃ k : Nat, k ≤ l.length ∧ i = .int .i64 k ∧ ∀ j (hj : j < l.length), j < k → l[j] ≠ s) (fun i => l.length - (intOf i).toNat)
  case atStart => exact ⟨0, Nat.zero_le _, rfl, fun j hj h0 => absurd h0 (by omega)⟩
  case round =>
    obtain ⟨k, hk, rfl, hs⟩ := hrel
    have HS := hide hs; clear hs
    by_cases hlt : k < l.length
    · obtain ⟨b, off, rfl, hb, hc⟩ := int_at h hlt
      by_cases he : l[k] = s
      · have hq : (l[k] == s) = true := by simpa using he
        have hm : decide (s ∈ l) = true := by rw [decide_eq_true_iff, ← he]; exact List.getElem_mem _
        have HM := hide hm; clear hm he
        go_wp2
        go_ret
        exact ⟨ret_congr (by rw [HM.out]; rfl), rfl⟩
      · have hq : (l[k] == s) = false := by simpa using he
        have HE := hide he; clear he
        go_wp2
        go_round
        case rel => exact ⟨k + 1, by omega, by go_num, fun j hj h1 => by
          rcases Nat.lt_or_ge j k with h2 | h2
          · exact HS j hj h2
          · obtain rfl : j = k := by omega
            exact HE⟩
        case measure => simp [intOf]; omega
    · have hm : decide (s ∈ l) = false := by
        rw [decide_eq_false_iff_not]
        intro hm; obtain ⟨j, hj, e⟩ := List.getElem_of_mem hm; exact HS j hj (by omega) e
      have HM := hide hm; clear hm
      go_wp2
      go_ret
      exact ⟨ret_congr (by rw [HM.out]; rfl), rfl⟩
theorem quiet_add_left {P : Program} {f : FuncId} {args : Array Value} {w : World} {a n : Nat} {v : Value}
    (h : Calls P f args (w.drewN (a + n)) fun e w' => e = .returned v ∧ w.drewN (a + n) = w') :
    Calls P f args (w.drewN (a + n)) fun e w'' => e = .returned v ∧ ∃ m, w'' = w.drewN (a + m) :=
  h.mono fun _ _ ⟨he, hm⟩ => ⟨he, n, hm.symm⟩
theorem quiet_left {P : Program} {f : FuncId} {args : Array Value} {w : World} {n : Nat} {v : Value}
    (h : Calls P f args (w.drewN n) fun e w' => e = .returned v ∧ w.drewN n = w') : Calls P f args (w.drewN n) fun e w'' => e = .returned v ∧ ∃ m, w'' = w.drewN m :=
  h.mono fun _ _ ⟨he, hm⟩ => ⟨he, n, hm.symm⟩
end Go.Proofs.YtpggamapmgpjcaaGreatDoor
