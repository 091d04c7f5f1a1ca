/- The walk of catalog.IsName: it answers as isName. Conditions: lengths that fit memory; the table strings.asciiSpace is laid. Plain Lean: models, their validity (chapters 14 and 15), placements (20), failures (21), rules at an instant (22). No program in sight. Conditions: none. -/
import Derived.Test.YtpggamapmgpjcaaGreatDoorK01

namespace Go.Proofs.YtpggamapmgpjcaaGreatDoor
open Go Go.RowKit Go.Proofs

/-- the table that strings.Fields reads -/
def Asc (w : World) : Prop := Lib.TabIs Tryz.prog w "strings.asciiSpace" .u8 Lib.asciiSpaceTab
theorem tabIs_below {P : Program} {n : String} {g B : Nat} {k : IntKind} {zs : List Int} {w w' : World} (hg : P.globalNamed n = some g) (h : Lib.TabIs P w n k zs) (hB : g < B) (hb : Below B w w') : Lib.TabIs P w' n k zs := by
  unfold Lib.TabIs World.var? at h ⊢
  rw [hg] at h ⊢
  simp only [Option.bind_some] at h ⊢
  rw [hb.block g hB]
  exact h
theorem tabIs_lt {P : Program} {n : String} {g : Nat} {k : IntKind} {zs : List Int} {w : World} (hg : P.globalNamed n = some g) (h : Lib.TabIs P w n k zs) : g < w.heap.size := by
  unfold Lib.TabIs World.var? at h
  rw [hg] at h
  simp only [Option.bind_some] at h
  rcases Nat.lt_or_ge g w.heap.size with h' | h'
  · exact h'
  · rw [Array.getElem?_eq_none h'] at h; cases h
theorem Asc.below {w w' : World} {B : Nat} (h : Asc w) (hB : w.heap.size ≤ B) (hb : Below B w w') : Asc w' :=
  have hg : Tryz.prog.globalNamed "strings.asciiSpace" = some 0 := by kernel_rfl
  tabIs_below hg h (Nat.lt_of_lt_of_le (tabIs_lt hg h) hB) hb

def kwText : ByteArray := (⟨#[97, 108, 119, 97, 121, 115, 32, 98, 101, 102, 111, 114, 101, 32, 98, 121, 32, 99, 97, 112, 97, 99, 105, 116, 121, 32, 100, 97, 114, 107, 32, 100, 105, 115, 116, 117, 114, 98, 32, 102, 97, 105, 108, 117, 114, 101, 115, 32, 102, 101, 101, 100, 32, 103, 114, 111, 117, 112, 32, 105, 110, 32, 106, 111, 98, 32, 107, 101, 101, 112, 32, 108, 105, 110, 107, 32, 108, 111, 97, 100, 32, 109, 97, 99, 104, 105, 110, 101, 32, 111, 110, 32, 111, 110, 108, 121, 32, 111, 114, 100, 101, 114, 32, 112, 111, 111, 108, 32, 113, 117, 111, 114, 117, 109, 32, 114, 97, 99, 107, 32, 114, 101, 115, 101, 114, 118, 101, 32, 115, 104, 97, 114, 101, 32, 115, 105, 108, 101, 110, 99, 101, 32, 115, 105, 116, 101, 32, 115, 105, 122, 101, 32, 115, 108, 111, 116, 115, 32, 115, 112, 114, 101, 97, 100]⟩ : ByteArray)
theorem kw_fields : (Lib.fields kwText.data.toList).map (fun l => Value.string ⟨l.toArray⟩) = keywords.map Value.string := by kernel_rfl
theorem kw_len : (Lib.fields kwText.data.toList).length = keywords.length := by kernel_rfl
theorem kw_ascii : kwText.data.toList.all (fun b => decide (b.toNat < 128)) = true := by kernel_rfl
theorem kw_size : kwText.size < 4294967281 := by decide +kernel

set_option maxHeartbeats 1000000 in
set_option maxRecDepth 100000 in
theorem keywords_prog (w : World) (ha : Asc w) : Calls Tryz.prog 83 #[] w fun e w' => e = .returned (.slice (some ⟨w.heap.size, 0, none⟩) keywords.length keywords.length) ∧ Strs w' w'.heap.size (some ⟨w.heap.size, 0, none⟩) keywords ∧ Below w.heap.size w w' := by
  have hf := Tryz.strings_Fields kwText w kw_size (fun j b h => by
    have := List.all_eq_true.1 kw_ascii b (List.mem_of_getElem? h)
    simpa using this) ha
  rw [kw_fields, kw_len] at hf
  have HF := hide hf; clear hf
  go_enter Tryz.func83, Tryz.ntmps83
  go_wp2_with fail
  refine Calls.mono (HF.out) ?_
  rintro e w' ⟨rfl, rfl⟩
  go_wp2_with fail
  go_ret
  exact ⟨rfl, (Strs.newRow w 9 keywords).more (by simp), (Below.refl _ _).alloc (Nat.le_refl _) _⟩

/-- what IsName$1 answers -/
def oddI (c : Int) : Bool := !nameI c
set_option maxHeartbeats 400000 in
theorem odd_rune (c : Int) (w : World) : Calls Tryz.prog 80 #[.int .i32 c] w fun e w' => e = .returned (.bool (oddI c)) ∧ w = w' := by
  have h95 : ∃ b, (c != 95) = b := ⟨_, rfl⟩
  obtain ⟨b, h95⟩ := h95
  have HO := hide (show oddI c = !(letterI c || digitI c || !b) by simp [oddI, nameI, ← h95]; rfl)
  have HL := hide (show letterI c = (decide (97 ≤ c) && decide (c ≤ 122)) from rfl)
  have HD := hide (show digitI c = (decide (48 ≤ c) && decide (c ≤ 57)) from rfl)
  by_cases h1 : c < 97 <;> by_cases h2 : 122 < c <;> by_cases h3 : c < 48 <;> by_cases h4 : 57 < c <;> cases b
  all_goals first
    | (exfalso; omega)
    | (go_enter Tryz.func80, Tryz.ntmps80
       go_wp2
       go_ret
       exact ⟨ret_congr (by rw [HO.out, HL.out, HD.out]; simp only [show decide (97 ≤ c) = !decide (c < 97) by simp [← decide_not], show decide (c ≤ 122) = !decide (122 < c) by simp [← decide_not], show decide (48 ≤ c) = !decide (c < 48) by simp [← decide_not], show decide (c ≤ 57) = !decide (57 < c) by simp [← decide_not]]; simp [*]), rfl⟩)
end Go.Proofs.YtpggamapmgpjcaaGreatDoor

namespace Go.Proofs.YtpggamapmgpjcaaGreatDoor
open Go Go.RowKit Go.Proofs

theorem containsS_eq (l : List ByteArray) (x : ByteArray) : Lib.containsS l x = hasS l x := by
  rw [Bool.eq_iff_iff, hasS_iff, Lib.containsS_iff]
theorem contains_strs (A : Option Addr) (c : Nat) (l : List ByteArray) (s : ByteArray) (w : World) (hl : l.length ≤ 9223372036854775807) (h : Strs w w.heap.size A l) :
    Calls Tryz.prog 82 #[.slice A l.length c, .string s] w fun e w' => e = .returned (.bool (hasS l s)) ∧ w = w' := by
  by_cases hn : l = []
  · subst hn
    exact (Tryz.slices_Contains_string_empty A c s w).mono fun e w' ⟨he, hw⟩ => ⟨by rw [he]; rfl, hw.symm⟩
  · obtain ⟨b, off, rfl, hb, hc⟩ := h.form hn
    refine (Tryz.slices_Contains_string b off l.length c l s w (Nat.le_refl _) hl hc).mono fun e w' ⟨he, hw⟩ => ⟨?_, hw.symm⟩
    rw [he, containsS_eq, List.take_length]

/-- IndexFunc for 'a byte that no name has' -/
theorem idxFrom_name (s : ByteArray) : ∀ (f pos : Nat), s.size ≤ pos + f → (0 ≤ Lib.idxFuncFrom (fun x => oddI x) true s f pos ↔ ∃ j, ∃ h : j < s.size, pos ≤ j ∧ nameI s[j].toNat = false)
  | 0, pos, hf => by
    simp only [Lib.idxFuncFrom]
    constructor
    · intro h; omega
    · rintro ⟨j, h, hj, _⟩; omega
  | f + 1, pos, hf => by
    unfold Lib.idxFuncFrom
    by_cases hp : pos < s.size
    · rw [if_pos hp]
      rcases Nat.lt_or_ge (s[pos].toNat) 128 with ha | ha
      · rw [decode_ascii s pos hp ha]
        cases hn : nameI s[pos].toNat
        · rw [if_pos (by simp [oddI, hn])]
          exact ⟨fun _ => ⟨pos, hp, Nat.le_refl _, hn⟩, fun _ => by omega⟩
        · rw [if_neg (by simp [oddI, hn]), idxFrom_name s f (pos + 1) (by omega)]
          constructor
          · rintro ⟨j, h, hj, hx⟩; exact ⟨j, h, by omega, hx⟩
          · rintro ⟨j, h, hj, hx⟩
            refine ⟨j, h, ?_, hx⟩
            rcases Nat.lt_or_ge pos j with h1 | h1
            · omega
            · obtain rfl : j = pos := by omega
              rw [hn] at hx; cases hx
      · obtain ⟨h1, h2⟩ := decode_high s pos hp ha
        have hod : ∀ n : Nat, 128 ≤ n → oddI n = true := by
          intro n hn
          simp [oddI, nameI, letterI, digitI]; omega
        rw [if_pos (hod _ h1)]
        refine ⟨fun _ => ⟨pos, hp, Nat.le_refl _, ?_⟩, fun _ => by omega⟩
        have := hod _ ha
        simpa [oddI] using this
    · rw [if_neg hp]
      constructor
      · intro h; omega
      · rintro ⟨j, h, hj, _⟩; omega
theorem idx_name (s : ByteArray) : decide (0 ≤ Lib.idxFunc (fun x => oddI x) true s) = !s.data.toList.all (fun c => nameI c.toNat) := by
  rw [Lib.idxFunc, Bool.eq_iff_iff, decide_eq_true_eq, idxFrom_name s s.size 0 (by omega)]
  rw [Bool.not_eq_true', Bool.eq_false_iff, Ne, all_iff s (fun c => nameI c.toNat)]
  constructor
  · rintro ⟨j, h, _, hx⟩ hall
    rw [hall j h] at hx; cases hx
  · intro hall
    refine Classical.byContradiction fun hne => hall fun j h => ?_
    cases hx : nameI s[j].toNat
    · exact absurd ⟨j, h, Nat.zero_le _, hx⟩ hne
    · rfl

set_option maxHeartbeats 1000000 in
theorem isName_prog (s : ByteArray) (w : World) (ha : Asc w) (hs : s.size ≤ 9223372036854775807) :
    Calls Tryz.prog 45 #[.string s] w fun e w' => e = .returned (.bool (isName s)) ∧ Below w.heap.size w w' := by
  by_cases h1 : s.size < 1
  · have HN := hide (isName_short h1)
    go_enter Tryz.func45, Tryz.ntmps45
    go_wp2
    go_ret
    exact ⟨ret_congr (by rw [HN.out]; rfl), Below.refl _ _⟩
  by_cases h2 : 31 < s.size
  · have HN := hide (isName_long h2)
    go_enter Tryz.func45, Tryz.ntmps45
    go_wp2
    go_ret
    exact ⟨ret_congr (by rw [HN.out]; rfl), Below.refl _ _⟩
  cases h3 : letterI s[0].toNat
  · have HN := hide (isName_first (by omega) h3)
    unfold letterI at h3
    by_cases h4 : (97 : Int) ≤ s[0].toNat
    · have h5 : ¬ ((s[0].toNat : Int) ≤ 122) := by intro h5; simp [h4, h5] at h3
      clear h3
      go_enter Tryz.func45, Tryz.ntmps45
      go_wp2
      go_ret
      exact ⟨ret_congr (by rw [HN.out]; rfl), Below.refl _ _⟩
    · clear h3
      go_enter Tryz.func45, Tryz.ntmps45
      go_wp2
      go_ret
      exact ⟨ret_congr (by rw [HN.out]; rfl), Below.refl _ _⟩
  have hN : isName s = ((s.data.toList.all (fun c => nameI c.toNat)) && !hasS keywords s) := by
    unfold isName
    rw [getD_zero s (by omega), h3]
    have e1 : 1 ≤ s.size := by omega
    have e2 : s.size ≤ 31 := by omega
    simp only [e1, e2, decide_true, Bool.true_and]
    rw [Bool.and_comm]
  have hI := idx_name s
  unfold letterI at h3
  simp only [Bool.and_eq_true, decide_eq_true_eq] at h3
  obtain ⟨h4, h5⟩ := h3
  have hpred : PredGrows Tryz.prog 80 #[] (fun x => oddI x) w := fun W x _ _ =>
    (odd_rune x W).mono fun e w' ⟨he, hw⟩ => ⟨he, hw ▸ Below.refl _ _⟩
  have hcf := Tryz.strings_ContainsFunc_grows 80 #[] (fun _ _ => by kernel_rfl) (fun x => oddI x) s w hpred
  rw [hI] at hcf
  have HC := hide hcf
  clear hcf hpred hI
  cases hall : s.data.toList.all (fun c => nameI c.toNat)
  · rw [hall] at hN HC
    have HN := hide (show isName s = false from hN)
    clear hN
    have HA := hide hall; clear hall
    go_enter Tryz.func45, Tryz.ntmps45
    go_wp2_with (first
      | (go_at_call 81; refine Calls.mono HC.out ?_; rintro e w1 ⟨rfl, hb1⟩))
    go_ret
    exact ⟨ret_congr (by rw [HN.out]; rfl), hb1⟩
  · rw [hall] at hN HC
    have HA := hide hall; clear hall
    cases hk : hasS keywords s
    all_goals
      rw [hk] at hN
      have HN := hide hN
      clear hN
      go_enter Tryz.func45, Tryz.ntmps45
      go_wp2_with (first
        | (go_at_call 81; refine Calls.mono HC.out ?_; rintro e w1 ⟨rfl, hb1⟩)
        | (go_at_call 83; refine (keywords_prog _ (Asc.below ha (Nat.le_refl _) hb1)).mono ?_; rintro e w2 ⟨rfl, hA, hb2⟩)
        | (go_at_call 82; refine (contains_strs _ _ keywords s _ (by decide) hA).mono ?_; rintro e w' ⟨rfl, rfl⟩))
      go_ret
      exact ⟨ret_congr (by rw [HN.out]; rfl), hb1.trans (hb2.mono hb1.size)⟩
end Go.Proofs.YtpggamapmgpjcaaGreatDoor

namespace Go.Proofs.YtpggamapmgpjcaaGreatDoor
open Go

structure RackM where
  name : ByteArray
  site : Int
  feed : Int
structure MachM where
  name : ByteArray
  rack : Int
  cap : Int
structure LinkM where
  a : Int
  b : Int
  cap : Int
structure ItemM where
  name : ByteArray
  kind : Int
  count : Int
  load : Int
  size : Int
  share : Int
  on : List Int
structure RuleM where
  kind : Int
  item : Int
  other : Int
  n : Int
  by_ : Int
  always : Bool
  machines : List Int
structure Mod where
  sites : List ByteArray
  feeds : List ByteArray
  racks : List RackM
  machs : List MachM
  links : List LinkM
  items : List ItemM
  dark : Int
  slots : Int
  reserve : Int
  failures : Int
  rules : List RuleM

def exI (n l : Int) : Bool := decide (1 ≤ n) && decide (n ≤ l)
def wiI (n a b : Int) : Bool := decide (a ≤ n) && decide (n ≤ b)
/-- every element passes a check that sees the elements before it -/
def soundB {α : Type} (p : α → List α → Bool) (l : List α) : Bool := decide (∀ i (h : i < l.length), p l[i] (l.take i) = true)
theorem soundB_true {α : Type} {p : α → List α → Bool} {l : List α} (h : ∀ i (h : i < l.length), p l[i] (l.take i) = true) : soundB p l = true := by simpa [soundB] using h
theorem soundB_false {α : Type} {p : α → List α → Bool} {l : List α} {i : Nat} (hi : i < l.length) (h : p l[i] (l.take i) = false) : soundB p l = false := by
  rw [soundB, decide_eq_false_iff_not]; intro h'; rw [h' i hi] at h; cases h
theorem soundB_iff {α : Type} {p : α → List α → Bool} {l : List α} : soundB p l = true ↔ ∀ i (h : i < l.length), p l[i] (l.take i) = true := by simp [soundB]

/-! Chapter 14 -/
def rackOk (m : Mod) (x : RackM) (pre : List RackM) : Bool :=
  exI x.site m.sites.length && exI x.feed m.feeds.length && !pre.any fun y => decide (y.feed = x.feed) && decide (y.site ≠ x.site)
def machOk (m : Mod) (x : MachM) : Bool := exI x.rack m.racks.length && wiI x.cap 0 1048576
def linkOk (m : Mod) (x : LinkM) (pre : List LinkM) : Bool :=
  decide (1 ≤ x.a) && decide (x.a < x.b) && decide (x.b ≤ m.sites.length) && wiI x.cap 0 1048576 && !pre.any fun y => decide (y.a = x.a) && decide (y.b = x.b)
def siteB (m : Mod) : Bool :=
  exI m.sites.length 4 && decide (m.feeds.length ≤ 16) && decide (m.racks.length ≤ 16) && exI m.machs.length 16 && decide (m.links.length ≤ 12) && soundB (rackOk m) m.racks && m.machs.all (machOk m) && soundB (linkOk m) m.links
def domsI (m : Mod) (by_ : Int) : Int :=
  if by_ = 1 then m.machs.length else if by_ = 2 then m.racks.length else if by_ = 3 then m.feeds.length else if by_ = 4 then m.sites.length else 0
/-- the domain of a machine before it is known to exist -/
def domN (m : Mod) (by_ mc : Int) : Int :=
  if by_ = 1 then mc
  else match m.machs[(mc - 1).toNat]? with
    | none => 0
    | some x => if exI x.rack m.racks.length then (match m.racks[(x.rack - 1).toNat]? with
        | none => 0
        | some r => if by_ = 3 then r.feed else if by_ = 4 then r.site else x.rack) else 0
def domI (m : Mod) (by_ mc : Int) : Int := if exI mc m.machs.length && exI (domN m by_ mc) (domsI m by_) then domN m by_ mc else 0

/-! Chapter 15 -/
def nameList (m : Mod) : List ByteArray := m.sites ++ m.feeds ++ m.racks.map (·.name) ++ m.machs.map (·.name) ++ m.items.map (·.name)
def namesB (m : Mod) : Bool := soundB (fun s pre => isName s && !hasS pre s) (nameList m)
def incB (nm : Int) (l : List Int) : Bool :=
  decide (0 < l.length) && decide (∀ i (h : i < l.length), exI l[i] nm = true ∧ (0 < i → l.getD (i - 1) 0 < l[i]))
def itemKindB (x : ItemM) : Bool :=
  if x.kind = 0 then decide (x.count = 1 ∨ x.count = 3 ∨ x.count = 5) && decide ((x.on.length : Int) = x.count)
  else if x.kind = 1 then wiI x.count 1 8
  else if x.kind = 2 then decide (x.count = 1) && decide (x.on.length = 1)
  else false
def itemOk (m : Mod) (x : ItemM) : Bool := incB m.machs.length x.on && wiI x.load 0 1048576 && wiI x.size 0 1048576 && wiI x.share 1 1048576 && itemKindB x
def noList (l : List Int) : Bool := decide (l.length = 0)
def ruleOk (m : Mod) (x : RuleM) : Bool :=
  if x.kind = 0 then exI x.item m.items.length && (match m.items[(x.item - 1).toNat]? with | some y => decide (y.kind = 0) | none => false) && decide (x.other = 0) && decide (x.by_ = 0) && !x.always && noList x.machines && decide (x.n = 0)
  else if x.kind = 1 then exI x.item m.items.length && decide (x.other = 0) && decide (x.by_ = 0) && noList x.machines && wiI x.n 0 16
  else if x.kind = 2 then exI x.item m.items.length && wiI x.by_ 2 4 && decide (x.other = 0) && !x.always && noList x.machines && wiI x.n 0 16
  else if x.kind = 3 then exI x.item m.items.length && incB m.machs.length x.machines && decide (x.other = 0) && decide (x.by_ = 0) && !x.always && decide (x.n = 0)
  else if x.kind = 4 then exI x.item m.items.length && exI x.other m.items.length && decide (x.item ≠ x.other) && decide (x.by_ = 0) && !x.always && noList x.machines && decide (x.n = 0)
  else if x.kind = 5 then decide (x.item = 0) && decide (x.other = 0) && decide (x.by_ = 0) && !x.always && noList x.machines && wiI x.n 0 200
  else if x.kind = 6 then exI x.item m.items.length && decide (x.other = 0) && decide (x.by_ = 0) && !x.always && noList x.machines && wiI x.n 0 16
  else false
def sizesB (m : Mod) : Bool := exI m.dark m.sites.length && wiI m.slots 1 16 && wiI m.reserve 0 (m.slots - 1) && wiI m.failures 0 7
def validM (m : Mod) : Bool :=
  siteB m && decide (m.items.length ≤ 8) && decide (m.rules.length ≤ 40) && namesB m && m.items.all (itemOk m) && m.rules.all (ruleOk m) && sizesB m

/-! Chapter 20: a placement is a list of lists of (machine, state) -/
abbrev UnitM := Int × Int
abbrev PlaceM := List (List UnitM)
def initP (m : Mod) : PlaceM := m.items.map fun x => x.on.map fun k => (k, 0)
def unitsP (p : PlaceM) (item : Int) : List UnitM := if exI item p.length then p.getD (item - 1).toNat [] else []
def findU (l : List UnitM) (mc : Int) : Option Nat := l.findIdx? fun u => decide (u.1 = mc)
def withP (p : PlaceM) (item : Int) (l : List UnitM) : PlaceM := if exI item p.length then p.set (item - 1).toNat l else p
def dropU (l : List UnitM) (mc : Int) : List UnitM := match findU l mc with | none => l | some i => l.take i ++ l.drop (i + 1)
/-- the place of a new unit -/
def atU (l : List UnitM) (mc : Int) : Nat := (l.findIdx? fun u => decide (mc < u.1)).getD l.length
def putU (l : List UnitM) (mc st : Int) : List UnitM := match findU l mc with | some i => l.set i (mc, st) | none => l.take (atU l mc) ++ (mc, st) :: l.drop (atU l mc)
def dropP (p : PlaceM) (item mc : Int) : PlaceM := withP p item (dropU (unitsP p item) mc)
def putP (p : PlaceM) (item mc st : Int) : PlaceM := withP p item (putU (unitsP p item) mc st)
def machinesP (p : PlaceM) (item st : Int) : List Int := ((unitsP p item).filter fun u => decide (u.2 = st)).map (·.1)
theorem withP_len (p : PlaceM) (item : Int) (l : List UnitM) : (withP p item l).length = p.length := by unfold withP; split <;> simp
theorem withP_self (p : PlaceM) (item : Int) : withP p item (unitsP p item) = p := by
  unfold withP unitsP
  split
  · rename_i h
    simp only [exI, Bool.and_eq_true, decide_eq_true_eq] at h
    have hl : (item - 1).toNat < p.length := by omega
    rw [List.getD_eq_getElem?_getD, List.getElem?_eq_getElem hl]
    simp
  · rfl
def spreadP (m : Mod) (p : PlaceM) (item by_ : Int) : List Int :=
  (List.range (domsI m by_).toNat).map fun (d : Nat) => (((machinesP p item 0).filter fun k => decide (domI m by_ k = (d : Int) + 1)).length : Int)

/-! Chapters 21 and 22 -/
def hitsB (m : Mod) (f : Int × Int) (mc : Int) : Bool := decide (1 ≤ f.2) && decide (domI m f.1 mc = f.2)
def survP (m : Mod) (p : PlaceM) (f : Int × Int) (item : Int) : List Int := (machinesP p item 0).filter fun k => !hitsB m f k
def failsOf (m : Mod) (bit by_ : Int) : List (Int × Int) := if (m.failures / bit) % 2 = 1 then (List.range (domsI m by_).toNat).map fun (i : Nat) => (by_, (i : Int) + 1) else []
def allF (m : Mod) : List (Int × Int) := (0, 0) :: (failsOf m 1 1 ++ failsOf m 2 2 ++ failsOf m 4 3)
def failuresR (m : Mod) (r : RuleM) : List (Int × Int) := if r.kind = 0 ∨ (r.kind = 1 ∧ r.always = false) then allF m else [(0, 0)]
def crowdedI (m : Mod) (r : RuleM) (p : PlaceM) : Int := match (spreadP m p r.item r.by_).findIdx? (fun n => decide (r.n < n)) with | some i => (i : Int) + 1 | none => 0
def elsewhereI (r : RuleM) (p : PlaceM) : Option Int := (((unitsP p r.item).map (·.1)).find? fun k => !decide (k ∈ r.machines))
def holdsR (m : Mod) (r : RuleM) (p : PlaceM) (f : Int × Int) : Bool :=
  if r.kind = 0 then decide ((machinesP p r.item 0).length < 2 * (survP m p f r.item).length)
  else if r.kind = 1 then decide (r.n ≤ (survP m p (if r.always then (0, 0) else f) r.item).length)
  else if r.kind = 2 then decide (crowdedI m r p = 0)
  else if r.kind = 3 then decide (elsewhereI r p = none)
  else true
def holdsAll (m : Mod) (r : RuleM) (p : PlaceM) : Bool := (failuresR m r).all fun f => holdsR m r p f

/-! Chapter 58 -/
structure EvM where
  kind : Int
  mach : Int
  group : Int
  old : List Int
  hitem : Int
  hstate : Int
  gone : Bool
  outcome : Int
def kindI (m : Mod) (item : Int) : Int := if exI item m.items.length then (match m.items[(item - 1).toNat]? with | some x => x.kind | none => -1) else -1
def countsB (m : Mod) (e : EvM) : Bool :=
  if e.kind = 2 then decide (kindI m e.group = 0)
  else if e.kind = 3 then (decide (kindI m e.hitem = 1) || decide (kindI m e.hitem = 2)) && exI e.mach m.machs.length
  else false
def dropAll (p : PlaceM) (item : Int) (n : Nat) : PlaceM := (List.range n).foldl (fun p (k : Nat) => dropP p item ((k : Int) + 1)) p
def putOld (m : Mod) (item : Int) (p : PlaceM) (n : Int) : PlaceM := if exI (n.tmod 100) m.machs.length then putP p item (n.tmod 100) 0 else p
def afterP (m : Mod) (p : PlaceM) (e : EvM) : PlaceM :=
  if e.kind = 2 then e.old.foldl (putOld m e.group) (dropAll p e.group m.machs.length)
  else if e.gone = true ∨ (kindI m e.hitem = 1 ∧ e.hstate ≠ 0) then dropP p e.hitem e.mach
  else if ¬ kindI m e.hitem = 1 ∧ e.hstate = 2 then putP p e.hitem e.mach 2
  else putP p e.hitem e.mach 0
/-- the placement behind an event, whether it counts or not -/
def stepP (m : Mod) (p : PlaceM) (e : EvM) : PlaceM := if countsB m e then afterP m p e else p
def placesGo (m : Mod) : PlaceM → List EvM → List PlaceM
  | _, [] => []
  | p, e :: l => if countsB m e then afterP m p e :: placesGo m (afterP m p e) l else placesGo m p l
def placesM (m : Mod) (l : List EvM) : List PlaceM := initP m :: placesGo m (initP m) l
end Go.Proofs.YtpggamapmgpjcaaGreatDoor
