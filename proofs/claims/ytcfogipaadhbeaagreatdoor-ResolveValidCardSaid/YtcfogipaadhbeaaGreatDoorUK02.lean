/- A part of the claim: see its last text. -/
import Derived.Test.YtcfogipaadhbeaaGreatDoorUK01
import Derived.Lib.AppendIntMem
import Derived.IntWalk

set_option maxRecDepth 100000
set_option maxHeartbeats 16000000
namespace Go.Proofs.YtcfogipaadhbeaaGreatDoor
open Go Go.RowKit Go.Proofs
def Asc (w : World) : Prop := Lib.TabIs Tryz.prog w "strings.asciiSpace" .u8 Lib.asciiSpaceTab
theorem tabIs_below {P : Program} {n : String} {g B : Nat} {k : IntKind} {zs : List Int} {w w' : World} (hg : P.globalNamed n = some g) (h : Lib.TabIs P w n k zs) (hB : g < B) (hb : Below B w w') : Lib.TabIs P w' n k zs := by
 unfold Lib.TabIs World.var? at h ⊢
 rw [hg] at h ⊢
 simp only [Option.bind_some] at h ⊢
 rw [hb.block g hB]
 exact h
theorem tabIs_lt {P : Program} {n : String} {g : Nat} {k : IntKind} {zs : List Int} {w : World} (hg : P.globalNamed n = some g) (h : Lib.TabIs P w n k zs) : g < w.heap.size := by
 unfold Lib.TabIs World.var? at h
 rw [hg] at h
 simp only [Option.bind_some] at h
 rcases Nat.lt_or_ge g w.heap.size with h' | h'
 · exact h'
 · rw [Array.getElem?_eq_none h'] at h; cases h
theorem Asc.below {w w' : World} {B : Nat} (h : Asc w) (hB : w.heap.size ≤ B) (hb : Below B w w') : Asc w' :=
 have hg : Tryz.prog.globalNamed "strings.asciiSpace" = some 0 := by kernel_rfl
 tabIs_below hg h (Nat.lt_of_lt_of_le (tabIs_lt hg h) hB) hb
def kwText : ByteArray := (⟨#[97, 108, 119, 97, 121, 115, 32, 98, 101, 102, 111, 114, 101, 32, 98, 121, 32, 99, 97, 112, 97, 99, 105, 116, 121, 32, 100, 97, 114, 107, 32, 100, 105, 115, 116, 117, 114, 98, 32, 102, 97, 105, 108, 117, 114, 101, 115, 32, 102, 101, 101, 100, 32, 103, 114, 111, 117, 112, 32, 105, 110, 32, 106, 111, 98, 32, 107, 101, 101, 112, 32, 108, 105, 110, 107, 32, 108, 111, 97, 100, 32, 109, 97, 99, 104, 105, 110, 101, 32, 111, 110, 32, 111, 110, 108, 121, 32, 111, 114, 100, 101, 114, 32, 112, 111, 111, 108, 32, 113, 117, 111, 114, 117, 109, 32, 114, 97, 99, 107, 32, 114, 101, 115, 101, 114, 118, 101, 32, 115, 104, 97, 114, 101, 32, 115, 105, 108, 101, 110, 99, 101, 32, 115, 105, 116, 101, 32, 115, 105, 122, 101, 32, 115, 108, 111, 116, 115, 32, 115, 112, 114, 101, 97, 100]⟩ : ByteArray)
theorem kw_fields : (Lib.fields kwText.data.toList).map (fun l => Value.string ⟨l.toArray⟩) = keywords.map Value.string := by kernel_rfl
theorem kw_len : (Lib.fields kwText.data.toList).length = keywords.length := by kernel_rfl
theorem kw_ascii : kwText.data.toList.all (fun b => decide (b.toNat < 128)) = true := by kernel_rfl
theorem kw_size : kwText.size < 4294967281 := by decide +kernel
theorem keywords_prog (w : World) (ha : Asc w) : Calls Tryz.prog 126 #[] w fun e w' => e = .returned (.slice (some ⟨w.heap.size, 0, none⟩) keywords.length keywords.length) ∧ Strs w' w'.heap.size (some ⟨w.heap.size, 0, none⟩) keywords ∧ Below w.heap.size w w' := by
 have hf := Tryz.strings_Fields kwText w kw_size (fun j b h => by
  have := List.all_eq_true.1 kw_ascii b (List.mem_of_getElem? h)
  simpa using this) ha
 rw [kw_fields, kw_len] at hf
 have HF := hide hf; clear hf
 go_enter Tryz.func126, Tryz.ntmps126
 go_wp2_with fail
 refine Calls.mono (HF.out) ?_
 rintro e w' ⟨rfl, rfl⟩
 go_wp2_with fail
 go_ret
 exact ⟨rfl, (Strs.newRow w 9 keywords).more (by simp), (Below.refl _ _).alloc (Nat.le_refl _) _⟩
def oddI (c : Int) : Bool := !nameI c
theorem odd_rune (c : Int) (w : World) : Calls Tryz.prog 123 #[.int .i32 c] w fun e w' => e = .returned (.bool (oddI c)) ∧ w = w' := by
 have h95 : ∃ b, (c != 95) = b := ⟨_, rfl⟩
 obtain ⟨b, h95⟩ := h95
 have HO := hide (show oddI c = !(letterI c || digitI c || !b) by simp [oddI, nameI, ← h95]; rfl)
 have HL := hide (show letterI c = (decide (97 ≤ c) && decide (c ≤ 122)) from rfl)
 have HD := hide (show digitI c = (decide (48 ≤ c) && decide (c ≤ 57)) from rfl)
 by_cases h1 : c < 97 <;> by_cases h2 : 122 < c <;> by_cases h3 : c < 48 <;> by_cases h4 : 57 < c <;> cases b
 all_goals first
  | (exfalso; omega)
  | (go_enter Tryz.func123, Tryz.ntmps123
     go_wp2
     go_ret
     exact ⟨ret_congr (by rw [HO.out, HL.out, HD.out]; simp only [show decide (97 ≤ c) = !decide (c < 97) by simp [← decide_not], show decide (c ≤ 122) = !decide (122 < c) by simp [← decide_not], show decide (48 ≤ c) = !decide (c < 48) by simp [← decide_not], show decide (c ≤ 57) = !decide (57 < c) by simp [← decide_not]]; simp [*]), rfl⟩)
end Go.Proofs.YtcfogipaadhbeaaGreatDoor
namespace Go.Proofs.YtcfogipaadhbeaaGreatDoor
open Go Go.RowKit Go.Proofs
theorem containsS_eq (l : List ByteArray) (x : ByteArray) : Lib.containsS l x = hasS l x := by
 rw [Bool.eq_iff_iff, hasS_iff, Lib.containsS_iff]
theorem contains_strs (A : Option Addr) (c : Nat) (l : List ByteArray) (s : ByteArray) (w : World) (hl : l.length ≤ 9223372036854775807) (h : Strs w w.heap.size A l) :
    Calls Tryz.prog 125 #[.slice A l.length c, .string s] w fun e w' => e = .returned (.bool (hasS l s)) ∧ w = w' := by
 by_cases hn : l = []
 · subst hn
   exact (Tryz.slices_Contains_string_empty A c s w).mono fun e w' ⟨he, hw⟩ => ⟨by rw [he]; rfl, hw.symm⟩
 · obtain ⟨b, off, rfl, hb, hc⟩ := h.form hn
   refine (Tryz.slices_Contains_string b off l.length c l s w (Nat.le_refl _) hl hc).mono fun e w' ⟨he, hw⟩ => ⟨?_, hw.symm⟩
   rw [he, containsS_eq, List.take_length]
theorem idxFrom_name (s : ByteArray) : ∀ (f pos : Nat), s.size ≤ pos + f → (0 ≤ Lib.idxFuncFrom (fun x => oddI x) true s f pos ↔ ∃ j, ∃ h : j < s.size, pos ≤ j ∧ nameI s[j].toNat = false)
 | 0, pos, hf => by
   simp only [Lib.idxFuncFrom]
   constructor
   · intro h; omega
   · rintro ⟨j, h, hj, _⟩; omega
 | f + 1, pos, hf => by
   unfold Lib.idxFuncFrom
   by_cases hp : pos < s.size
   · rw [if_pos hp]
     rcases Nat.lt_or_ge (s[pos].toNat) 128 with ha | ha
     · rw [decode_ascii s pos hp ha]
       cases hn : nameI s[pos].toNat
       · rw [if_pos (by simp [oddI, hn])]
         exact ⟨fun _ => ⟨pos, hp, Nat.le_refl _, hn⟩, fun _ => by omega⟩
       · rw [if_neg (by simp [oddI, hn]), idxFrom_name s f (pos + 1) (by omega)]
         constructor
         · rintro ⟨j, h, hj, hx⟩; exact ⟨j, h, by omega, hx⟩
         · rintro ⟨j, h, hj, hx⟩
           refine ⟨j, h, ?_, hx⟩
           rcases Nat.lt_or_ge pos j with h1 | h1
           · omega
           · obtain rfl : j = pos := by omega
             rw [hn] at hx; cases hx
     · obtain ⟨h1, h2⟩ := decode_high s pos hp ha
       have hod : ∀ n : Nat, 128 ≤ n → oddI n = true := by
        intro n hn
        simp [oddI, nameI, letterI, digitI]; omega
       rw [if_pos (hod _ h1)]
       refine ⟨fun _ => ⟨pos, hp, Nat.le_refl _, ?_⟩, fun _ => by omega⟩
       have := hod _ ha
       simpa [oddI] using this
   · rw [if_neg hp]
     constructor
     · intro h; omega
     · rintro ⟨j, h, hj, _⟩; omega
theorem idx_name (s : ByteArray) : decide (0 ≤ Lib.idxFunc (fun x => oddI x) true s) = !s.data.toList.all (fun c => nameI c.toNat) := by
 rw [Lib.idxFunc, Bool.eq_iff_iff, decide_eq_true_eq, idxFrom_name s s.size 0 (by omega)]
 rw [Bool.not_eq_true', Bool.eq_false_iff, Ne, all_iff s (fun c => nameI c.toNat)]
 constructor
 · rintro ⟨j, h, _, hx⟩ hall
   rw [hall j h] at hx; cases hx
 · intro hall
   refine Classical.byContradiction fun hne => hall fun j h => ?_
   cases hx : nameI s[j].toNat
   · exact absurd ⟨j, h, Nat.zero_le _, hx⟩ hne
   · rfl
theorem isName_prog (s : ByteArray) (w : World) (ha : Asc w) (hs : s.size ≤ 9223372036854775807) :
    Calls Tryz.prog 71 #[.string s] w fun e w' => e = .returned (.bool (isName s)) ∧ Below w.heap.size w w' := by
 by_cases h1 : s.size < 1
 · have HN := hide (isName_short h1)
   go_enter Tryz.func71, Tryz.ntmps71
   go_wp2
   go_ret
   exact ⟨ret_congr (by rw [HN.out]; rfl), Below.refl _ _⟩
 by_cases h2 : 31 < s.size
 · have HN := hide (isName_long h2)
   go_enter Tryz.func71, Tryz.ntmps71
   go_wp2
   go_ret
   exact ⟨ret_congr (by rw [HN.out]; rfl), Below.refl _ _⟩
 cases h3 : letterI s[0].toNat
 · have HN := hide (isName_first (by omega) h3)
   unfold letterI at h3
   by_cases h4 : (97 : Int) ≤ s[0].toNat
   · have h5 : ¬ ((s[0].toNat : Int) ≤ 122) := by intro h5; simp [h4, h5] at h3
     clear h3
     go_enter Tryz.func71, Tryz.ntmps71
     go_wp2
     go_ret
     exact ⟨ret_congr (by rw [HN.out]; rfl), Below.refl _ _⟩
   · clear h3
     go_enter Tryz.func71, Tryz.ntmps71
     go_wp2
     go_ret
     exact ⟨ret_congr (by rw [HN.out]; rfl), Below.refl _ _⟩
 have hN : isName s = ((s.data.toList.all (fun c => nameI c.toNat)) && !hasS keywords s) := by
  unfold isName
  rw [getD_zero s (by omega), h3]
  have e1 : 1 ≤ s.size := by omega
  have e2 : s.size ≤ 31 := by omega
  simp only [e1, e2, decide_true, Bool.true_and]
  rw [Bool.and_comm]
 have hI := idx_name s
 unfold letterI at h3
 simp only [Bool.and_eq_true, decide_eq_true_eq] at h3
 obtain ⟨h4, h5⟩ := h3
 have hpred : PredGrows Tryz.prog 123 #[] (fun x => oddI x) w := fun W x _ _ =>
  (odd_rune x W).mono fun e w' ⟨he, hw⟩ => ⟨he, hw ▸ Below.refl _ _⟩
 have hcf := Tryz.strings_ContainsFunc_grows 123 #[] (fun _ _ => by kernel_rfl) (fun x => oddI x) s w hpred
 rw [hI] at hcf
 have HC := hide hcf
 clear hcf hpred hI
 cases hall : s.data.toList.all (fun c => nameI c.toNat)
 · rw [hall] at hN HC
   have HN := hide (show isName s = false from hN)
   clear hN
   have HA := hide hall; clear hall
   go_enter Tryz.func71, Tryz.ntmps71
   go_wp2_with (first
    | (go_at_call 124; refine Calls.mono HC.out ?_; rintro e w1 ⟨rfl, hb1⟩))
   go_ret
   exact ⟨ret_congr (by rw [HN.out]; rfl), hb1⟩
 · rw [hall] at hN HC
   have HA := hide hall; clear hall
   cases hk : hasS keywords s
   all_goals
    rw [hk] at hN
    have HN := hide hN
    clear hN
    go_enter Tryz.func71, Tryz.ntmps71
    go_wp2_with (first
     | (go_at_call 124; refine Calls.mono HC.out ?_; rintro e w1 ⟨rfl, hb1⟩)
     | (go_at_call 126; refine (keywords_prog _ (Asc.below ha (Nat.le_refl _) hb1)).mono ?_; rintro e w2 ⟨rfl, hA, hb2⟩)
     | (go_at_call 125; refine (contains_strs _ _ keywords s _ (by decide) hA).mono ?_; rintro e w' ⟨rfl, rfl⟩))
    go_ret
    exact ⟨ret_congr (by rw [HN.out]; rfl), hb1.trans (hb2.mono hb1.size)⟩
def Pow (w : World) : Prop := Lib.TabIs Tryz.prog w "internal/strconv.uint64pow10" .u64 Lib.pow10Tab
theorem Pow.below {w w' : World} {B : Nat} (h : Pow w) (hB : w.heap.size ≤ B) (hb : Below B w w') : Pow w' :=
 have hg : Tryz.prog.globalNamed "internal/strconv.uint64pow10" = some 2 := by kernel_rfl
 tabIs_below hg h (Nat.lt_of_lt_of_le (tabIs_lt hg h) hB) hb
end Go.Proofs.YtcfogipaadhbeaaGreatDoor

namespace Go.Proofs.YtcfogipaadhbeaaGreatDoor
open Go
structure RackM where
 name : ByteArray
 site : Int
 feed : Int
structure MachM where
 name : ByteArray
 rack : Int
 cap : Int
structure LinkM where
 a : Int
 b : Int
 cap : Int
structure ItemM where
 name : ByteArray
 kind : Int
 count : Int
 load : Int
 size : Int
 share : Int
 on : List Int
structure RuleM where
 kind : Int
 item : Int
 other : Int
 n : Int
 by_ : Int
 always : Bool
 machines : List Int
structure Mod where
 sT : List ByteArray
 fT : List ByteArray
 rT : List RackM
 mT : List MachM
 lT : List LinkM
 iT : List ItemM
 dT : Int
 oT : Int
 vT : Int
 aT : Int
 uT : List RuleM
def exI (n l : Int) : Bool := decide (1 ≤ n) && decide (n ≤ l)
def wiI (n a b : Int) : Bool := decide (a ≤ n) && decide (n ≤ b)
def soundB {α : Type} (p : α → List α → Bool) (l : List α) : Bool := decide (∀ i (h : i < l.length), p l[i] (l.take i) = true)
theorem soundB_true {α : Type} {p : α → List α → Bool} {l : List α} (h : ∀ i (h : i < l.length), p l[i] (l.take i) = true) : soundB p l = true := by simpa [soundB] using h
theorem soundB_false {α : Type} {p : α → List α → Bool} {l : List α} {i : Nat} (hi : i < l.length) (h : p l[i] (l.take i) = false) : soundB p l = false := by
 rw [soundB, decide_eq_false_iff_not]; intro h'; rw [h' i hi] at h; cases h
theorem soundB_iff {α : Type} {p : α → List α → Bool} {l : List α} : soundB p l = true ↔ ∀ i (h : i < l.length), p l[i] (l.take i) = true := by simp [soundB]
/-! Chapter 14 -/
def rackOk (m : Mod) (x : RackM) (pre : List RackM) : Bool :=
 exI x.site m.sT.length && exI x.feed m.fT.length && !pre.any fun y => decide (y.feed = x.feed) && decide (y.site ≠ x.site)
def machOk (m : Mod) (x : MachM) : Bool := exI x.rack m.rT.length && wiI x.cap 0 1048576
def linkOk (m : Mod) (x : LinkM) (pre : List LinkM) : Bool :=
 decide (1 ≤ x.a) && decide (x.a < x.b) && decide (x.b ≤ m.sT.length) && wiI x.cap 0 1048576 && !pre.any fun y => decide (y.a = x.a) && decide (y.b = x.b)
def siteB (m : Mod) : Bool :=
 exI m.sT.length 4 && decide (m.fT.length ≤ 16) && decide (m.rT.length ≤ 16) && exI m.mT.length 16 && decide (m.lT.length ≤ 12) && soundB (rackOk m) m.rT && m.mT.all (machOk m) && soundB (linkOk m) m.lT
/-! Chapter 15 -/
def nameList (m : Mod) : List ByteArray := m.sT ++ m.fT ++ m.rT.map (·.name) ++ m.mT.map (·.name) ++ m.iT.map (·.name)
def namesB (m : Mod) : Bool := soundB (fun s pre => isName s && !hasS pre s) (nameList m)
def incB (nm : Int) (l : List Int) : Bool :=
 decide (0 < l.length) && decide (∀ i (h : i < l.length), exI l[i] nm = true ∧ (0 < i → l.getD (i - 1) 0 < l[i]))
def itemKindB (x : ItemM) : Bool :=
 if x.kind = 0 then decide (x.count = 1 ∨ x.count = 3 ∨ x.count = 5) && decide ((x.on.length : Int) = x.count)
 else if x.kind = 1 then wiI x.count 1 8
 else if x.kind = 2 then decide (x.count = 1) && decide (x.on.length = 1)
 else false
def itemOk (m : Mod) (x : ItemM) : Bool := incB m.mT.length x.on && wiI x.load 0 1048576 && wiI x.size 0 1048576 && wiI x.share 1 1048576 && itemKindB x
def noList (l : List Int) : Bool := decide (l.length = 0)
def ruleOk (m : Mod) (x : RuleM) : Bool :=
 if x.kind = 0 then exI x.item m.iT.length && (match m.iT[(x.item - 1).toNat]? with | some y => decide (y.kind = 0) | none => false) && decide (x.other = 0) && decide (x.by_ = 0) && !x.always && noList x.machines && decide (x.n = 0)
 else if x.kind = 1 then exI x.item m.iT.length && decide (x.other = 0) && decide (x.by_ = 0) && noList x.machines && wiI x.n 0 16
 else if x.kind = 2 then exI x.item m.iT.length && wiI x.by_ 2 4 && decide (x.other = 0) && !x.always && noList x.machines && wiI x.n 0 16
 else if x.kind = 3 then exI x.item m.iT.length && incB m.mT.length x.machines && decide (x.other = 0) && decide (x.by_ = 0) && !x.always && decide (x.n = 0)
 else if x.kind = 4 then exI x.item m.iT.length && exI x.other m.iT.length && decide (x.item ≠ x.other) && decide (x.by_ = 0) && !x.always && noList x.machines && decide (x.n = 0)
 else if x.kind = 5 then decide (x.item = 0) && decide (x.other = 0) && decide (x.by_ = 0) && !x.always && noList x.machines && wiI x.n 0 200
 else if x.kind = 6 then exI x.item m.iT.length && decide (x.other = 0) && decide (x.by_ = 0) && !x.always && noList x.machines && wiI x.n 0 16
 else false
def sizesB (m : Mod) : Bool := exI m.dT m.sT.length && wiI m.oT 1 16 && wiI m.vT 0 (m.oT - 1) && wiI m.aT 0 7
def validM (m : Mod) : Bool :=
 siteB m && decide (m.iT.length ≤ 8) && decide (m.uT.length ≤ 40) && namesB m && m.iT.all (itemOk m) && m.uT.all (ruleOk m) && sizesB m
/-! Chapter 20: a placement is a list of lists of (machine, state) -/
abbrev UnitM := Int × Int
abbrev PlaceM := List (List UnitM)
def unitsP (p : PlaceM) (item : Int) : List UnitM := if exI item p.length then p.getD (item - 1).toNat [] else []
def findU (l : List UnitM) (mc : Int) : Option Nat := l.findIdx? fun u => decide (u.1 = mc)
def withP (p : PlaceM) (item : Int) (l : List UnitM) : PlaceM := if exI item p.length then p.set (item - 1).toNat l else p
def dropU (l : List UnitM) (mc : Int) : List UnitM := match findU l mc with | none => l | some i => l.take i ++ l.drop (i + 1)
def atU (l : List UnitM) (mc : Int) : Nat := (l.findIdx? fun u => decide (mc < u.1)).getD l.length
def putU (l : List UnitM) (mc st : Int) : List UnitM := match findU l mc with | some i => l.set i (mc, st) | none => l.take (atU l mc) ++ (mc, st) :: l.drop (atU l mc)
def dropP (p : PlaceM) (item mc : Int) : PlaceM := withP p item (dropU (unitsP p item) mc)
def putP (p : PlaceM) (item mc st : Int) : PlaceM := withP p item (putU (unitsP p item) mc st)
theorem withP_len (p : PlaceM) (item : Int) (l : List UnitM) : (withP p item l).length = p.length := by unfold withP; split <;> simp
/-! Chapters 21 and 22 -/
/-! Chapter 58 -/
structure EvM where
 kind : Int
 mach : Int
 group : Int
 old : List Int
 hitem : Int
 hstate : Int
 gone : Bool
 outcome : Int
def kindI (m : Mod) (item : Int) : Int := if exI item m.iT.length then (match m.iT[(item - 1).toNat]? with | some x => x.kind | none => -1) else -1
def countsB (m : Mod) (e : EvM) : Bool :=
 if e.kind = 2 then decide (kindI m e.group = 0)
 else if e.kind = 3 then (decide (kindI m e.hitem = 1) || decide (kindI m e.hitem = 2)) && exI e.mach m.mT.length
 else false
def dropAll (p : PlaceM) (item : Int) (n : Nat) : PlaceM := (List.range n).foldl (fun p (k : Nat) => dropP p item ((k : Int) + 1)) p
def putOld (m : Mod) (item : Int) (p : PlaceM) (n : Int) : PlaceM := if exI (n.tmod 100) m.mT.length then putP p item (n.tmod 100) 0 else p
def afterP (m : Mod) (p : PlaceM) (e : EvM) : PlaceM :=
 if e.kind = 2 then e.old.foldl (putOld m e.group) (dropAll p e.group m.mT.length)
 else if e.gone = true ∨ (kindI m e.hitem = 1 ∧ e.hstate ≠ 0) then dropP p e.hitem e.mach
 else if ¬ kindI m e.hitem = 1 ∧ e.hstate = 2 then putP p e.hitem e.mach 2
 else putP p e.hitem e.mach 0
def stepP (m : Mod) (p : PlaceM) (e : EvM) : PlaceM := if countsB m e then afterP m p e else p
end Go.Proofs.YtcfogipaadhbeaaGreatDoor

namespace Go.Proofs.YtcfogipaadhbeaaGreatDoor
open Go Go.RowKit Go.Proofs
/-! Slices of elements of k cells; R tells how an element's cells read -/
structure RelK (α : Type) where
 R : World → Nat → α → List Value → Prop
 keep : ∀ {w w' : World} {B : Nat} {x : α} {vs : List Value}, R w B x vs → (∀ p : Addr, p.block < B → w'.cell? p = w.cell? p) → R w' B x vs
 more : ∀ {w : World} {B B' : Nat} {x : α} {vs : List Value}, R w B x vs → B ≤ B' → R w B' x vs
def Rows {α : Type} (E : RelK α) (k : Nat) (w : World) (B : Nat) (A : Option Addr) (l : List α) : Prop :=
 ∀ (i : Nat) (hi : i < l.length), ∃ (b off : Nat) (vs : List Value), A = some ⟨b, off, none⟩ ∧ b < B ∧ vs.length = k ∧ E.R w B l[i] vs ∧ ∀ (j : Nat) (u : Value), vs[j]? = some u → w.cell? ⟨b, off + i * k + j, none⟩ = some u
section
variable {α : Type} {E : RelK α} {k : Nat} {w w' : World} {B B' : Nat} {A : Option Addr} {l : List α}
theorem Rows.nil_ : Rows E k w B A ([] : List α) := fun i hi => absurd hi (by simp)
theorem Rows.keep (h : Rows E k w B A l) (hk : ∀ p : Addr, p.block < B → w'.cell? p = w.cell? p) : Rows E k w' B A l := fun i hi => by
 obtain ⟨b, off, vs, e, hb, hl, hR, hc⟩ := h i hi
 exact ⟨b, off, vs, e, hb, hl, E.keep hR hk, fun j u hu => (hk _ hb).trans (hc j u hu)⟩
theorem Rows.more (h : Rows E k w B A l) (hB : B ≤ B') : Rows E k w B' A l := fun i hi => by
 obtain ⟨b, off, vs, e, hb, hl, hR, hc⟩ := h i hi
 exact ⟨b, off, vs, e, by omega, hl, E.more hR hB, hc⟩
theorem Rows.below (h : Rows E k w B A l) (hb : Below B w w') : Rows E k w' B A l := h.keep fun _ hp => hb.cell hp
theorem Rows.grow (h : Rows E k w w.heap.size A l) (hb : Below w.heap.size w w') : Rows E k w' w'.heap.size A l := (h.below hb).more hb.size
theorem Rows.take_ (h : Rows E k w B A l) (n : Nat) : Rows E k w B A (l.take n) := fun i hi => by
 have hi' : i < l.length := by simp at hi; omega
 have := h i hi'
 simpa using this
end
def encRack : RelK RackM := ⟨fun _ _ x vs => vs = [.string x.name, .int .i64 x.site, .int .i64 x.feed] ∧ x.name.size ≤ 9223372036854775807, fun h _ => h, fun h _ => h⟩
def encMach : RelK MachM := ⟨fun _ _ x vs => vs = [.string x.name, .int .i64 x.rack, .int .i64 x.cap] ∧ x.name.size ≤ 9223372036854775807, fun h _ => h, fun h _ => h⟩
def encLink : RelK LinkM := ⟨fun _ _ x vs => vs = [.int .i64 x.a, .int .i64 x.b, .int .i64 x.cap], fun h _ => h, fun h _ => h⟩
def encItem : RelK ItemM := ⟨fun w B x vs => ∃ A c, vs = [.string x.name, .int .i64 x.kind, .int .i64 x.count, .int .i64 x.load, .int .i64 x.size, .int .i64 x.share, .slice A x.on.length c] ∧ x.name.size ≤ 9223372036854775807 ∧ x.on.length ≤ c ∧ c ≤ 9223372036854775807 ∧ Ints w B A x.on,
 fun ⟨A, c, h1, h2, h3, h5, h4⟩ hk => ⟨A, c, h1, h2, h3, h5, h4.keep hk⟩, fun ⟨A, c, h1, h2, h3, h5, h4⟩ hB => ⟨A, c, h1, h2, h3, h5, h4.more hB⟩⟩
def encRule : RelK RuleM := ⟨fun w B x vs => ∃ A c, vs = [.int .i64 x.kind, .int .i64 x.item, .int .i64 x.other, .int .i64 x.n, .int .i64 x.by_, .bool x.always, .slice A x.machines.length c] ∧ x.machines.length ≤ c ∧ c ≤ 9223372036854775807 ∧ Ints w B A x.machines,
 fun ⟨A, c, h1, h2, h5, h4⟩ hk => ⟨A, c, h1, h2, h5, h4.keep hk⟩, fun ⟨A, c, h1, h2, h5, h4⟩ hB => ⟨A, c, h1, h2, h5, h4.more hB⟩⟩
structure MH where
 s : Option Addr
 sc : Nat
 f : Option Addr
 fc : Nat
 r : Option Addr
 rc : Nat
 m : Option Addr
 mc : Nat
 l : Option Addr
 lc : Nat
 i : Option Addr
 ic : Nat
 u : Option Addr
 uc : Nat
structure MD (w : World) (B : Nat) (h : MH) (m : Mod) : Prop where
 dS : Strs w B h.s m.sT
 dF : Strs w B h.f m.fT
 dR : Rows encRack 3 w B h.r m.rT
 dM : Rows encMach 3 w B h.m m.mT
 dL : Rows encLink 3 w B h.l m.lT
 dI : Rows encItem 7 w B h.i m.iT
 dU : Rows encRule 7 w B h.u m.uT
 sl : m.sT.length ≤ 9223372036854775807
 fl : m.fT.length ≤ 9223372036854775807
 rl : m.rT.length ≤ 9223372036854775807
 ml : m.mT.length ≤ 9223372036854775807
 ll : m.lT.length ≤ 9223372036854775807
 il : m.iT.length ≤ 9223372036854775807
 ul : m.uT.length ≤ 9223372036854775807
 sf : ∀ s ∈ m.sT, s.size ≤ 9223372036854775807
 ff : ∀ s ∈ m.fT, s.size ≤ 9223372036854775807
section
variable {w w' : World} {B B' : Nat} {h : MH} {m : Mod}
theorem MD.keep (d : MD w B h m) (hk : ∀ p : Addr, p.block < B → w'.cell? p = w.cell? p) : MD w' B h m :=
 ⟨d.dS.keep hk, d.dF.keep hk, d.dR.keep hk, d.dM.keep hk, d.dL.keep hk, d.dI.keep hk, d.dU.keep hk, d.sl, d.fl, d.rl, d.ml, d.ll, d.il, d.ul, d.sf, d.ff⟩
theorem MD.more (d : MD w B h m) (hB : B ≤ B') : MD w B' h m :=
 ⟨d.dS.more hB, d.dF.more hB, d.dR.more hB, d.dM.more hB, d.dL.more hB, d.dI.more hB, d.dU.more hB, d.sl, d.fl, d.rl, d.ml, d.ll, d.il, d.ul, d.sf, d.ff⟩
theorem MD.below (d : MD w B h m) (hb : Below B w w') : MD w' B h m := d.keep fun _ hp => hb.cell hp
theorem MD.grow (d : MD w w.heap.size h m) (hb : Below w.heap.size w w') : MD w' w'.heap.size h m := (d.below hb).more hb.size
theorem Strs.grow {A : Option Addr} {l : List ByteArray} (h : Strs w w.heap.size A l) (hb : Below w.heap.size w w') : Strs w' w'.heap.size A l := (h.below hb).more hb.size
theorem Ints.grow {A : Option Addr} {l : List Int} (h : Ints w w.heap.size A l) (hb : Below w.heap.size w w') : Ints w' w'.heap.size A l := (h.below hb).more hb.size
theorem Rows.mach {A : Option Addr} {l : List MachM} (h : Rows encMach 3 w B A l) {i : Nat} (hi : i < l.length) : ∃ b off, A = some ⟨b, off, none⟩ ∧ b < B ∧ w.cell? ⟨b, off + i * 3, none⟩ = some (.string l[i].name) ∧ w.cell? ⟨b, off + i * 3 + 1, none⟩ = some (.int .i64 l[i].rack) ∧ w.cell? ⟨b, off + i * 3 + 2, none⟩ = some (.int .i64 l[i].cap) ∧ l[i].name.size ≤ 9223372036854775807 := by
 obtain ⟨b, off, vs, e, hb, _, ⟨rfl, hz⟩, hc⟩ := h i hi
 exact ⟨b, off, e, hb, hc 0 _ rfl, hc 1 _ rfl, hc 2 _ rfl, hz⟩
theorem Rows.rack {A : Option Addr} {l : List RackM} (h : Rows encRack 3 w B A l) {i : Nat} (hi : i < l.length) : ∃ b off, A = some ⟨b, off, none⟩ ∧ b < B ∧ w.cell? ⟨b, off + i * 3, none⟩ = some (.string l[i].name) ∧ w.cell? ⟨b, off + i * 3 + 1, none⟩ = some (.int .i64 l[i].site) ∧ w.cell? ⟨b, off + i * 3 + 2, none⟩ = some (.int .i64 l[i].feed) ∧ l[i].name.size ≤ 9223372036854775807 := by
 obtain ⟨b, off, vs, e, hb, _, ⟨rfl, hz⟩, hc⟩ := h i hi
 exact ⟨b, off, e, hb, hc 0 _ rfl, hc 1 _ rfl, hc 2 _ rfl, hz⟩
theorem Rows.link {A : Option Addr} {l : List LinkM} (h : Rows encLink 3 w B A l) {i : Nat} (hi : i < l.length) : ∃ b off, A = some ⟨b, off, none⟩ ∧ b < B ∧ w.cell? ⟨b, off + i * 3, none⟩ = some (.int .i64 l[i].a) ∧ w.cell? ⟨b, off + i * 3 + 1, none⟩ = some (.int .i64 l[i].b) ∧ w.cell? ⟨b, off + i * 3 + 2, none⟩ = some (.int .i64 l[i].cap) := by
 obtain ⟨b, off, vs, e, hb, _, rfl, hc⟩ := h i hi
 exact ⟨b, off, e, hb, hc 0 _ rfl, hc 1 _ rfl, hc 2 _ rfl⟩
theorem Rows.item {A : Option Addr} {l : List ItemM} (h : Rows encItem 7 w B A l) {i : Nat} (hi : i < l.length) : ∃ b off A2 c2, A = some ⟨b, off, none⟩ ∧ b < B ∧ w.cell? ⟨b, off + i * 7, none⟩ = some (.string l[i].name) ∧ w.cell? ⟨b, off + i * 7 + 1, none⟩ = some (.int .i64 l[i].kind) ∧ w.cell? ⟨b, off + i * 7 + 2, none⟩ = some (.int .i64 l[i].count) ∧
    w.cell? ⟨b, off + i * 7 + 3, none⟩ = some (.int .i64 l[i].load) ∧ w.cell? ⟨b, off + i * 7 + 4, none⟩ = some (.int .i64 l[i].size) ∧ w.cell? ⟨b, off + i * 7 + 5, none⟩ = some (.int .i64 l[i].share) ∧ w.cell? ⟨b, off + i * 7 + 6, none⟩ = some (.slice A2 l[i].on.length c2) ∧
    l[i].name.size ≤ 9223372036854775807 ∧ l[i].on.length ≤ c2 ∧ c2 ≤ 9223372036854775807 ∧ Ints w B A2 l[i].on := by
 obtain ⟨b, off, vs, e, hb, _, ⟨A2, c2, rfl, h1, h2, h4, h3⟩, hc⟩ := h i hi
 exact ⟨b, off, A2, c2, e, hb, hc 0 _ rfl, hc 1 _ rfl, hc 2 _ rfl, hc 3 _ rfl, hc 4 _ rfl, hc 5 _ rfl, hc 6 _ rfl, h1, h2, h4, h3⟩
theorem Rows.rule {A : Option Addr} {l : List RuleM} (h : Rows encRule 7 w B A l) {i : Nat} (hi : i < l.length) : ∃ b off A2 c2, A = some ⟨b, off, none⟩ ∧ b < B ∧ w.cell? ⟨b, off + i * 7, none⟩ = some (.int .i64 l[i].kind) ∧ w.cell? ⟨b, off + i * 7 + 1, none⟩ = some (.int .i64 l[i].item) ∧ w.cell? ⟨b, off + i * 7 + 2, none⟩ = some (.int .i64 l[i].other) ∧
    w.cell? ⟨b, off + i * 7 + 3, none⟩ = some (.int .i64 l[i].n) ∧ w.cell? ⟨b, off + i * 7 + 4, none⟩ = some (.int .i64 l[i].by_) ∧ w.cell? ⟨b, off + i * 7 + 5, none⟩ = some (.bool l[i].always) ∧ w.cell? ⟨b, off + i * 7 + 6, none⟩ = some (.slice A2 l[i].machines.length c2) ∧
    l[i].machines.length ≤ c2 ∧ c2 ≤ 9223372036854775807 ∧ Ints w B A2 l[i].machines := by
 obtain ⟨b, off, vs, e, hb, _, ⟨A2, c2, rfl, h2, h4, h3⟩, hc⟩ := h i hi
 exact ⟨b, off, A2, c2, e, hb, hc 0 _ rfl, hc 1 _ rfl, hc 2 _ rfl, hc 3 _ rfl, hc 4 _ rfl, hc 5 _ rfl, hc 6 _ rfl, h2, h4, h3⟩
theorem int_at {A : Option Addr} {l : List Int} (h : Ints w B A l) {k : Nat} (hk : k < l.length) : ∃ b off, A = some ⟨b, off, none⟩ ∧ b < B ∧ w.cell? ⟨b, off + k, none⟩ = some (.int .i64 l[k]) := by
 obtain ⟨b, off, e, hb, hc⟩ := Ints.form h (by intro e; subst e; simp at hk)
 exact ⟨b, off, e, hb, by rw [hc k hk]; simp [hk]⟩
theorem str_at {A : Option Addr} {l : List ByteArray} (h : Strs w B A l) {k : Nat} (hk : k < l.length) : ∃ b off, A = some ⟨b, off, none⟩ ∧ b < B ∧ w.cell? ⟨b, off + k, none⟩ = some (.string l[k]) := by
 obtain ⟨b, off, e, hb, hc⟩ := Strs.form h (by intro e; subst e; simp at hk)
 exact ⟨b, off, e, hb, by rw [hc k hk]; simp [hk]⟩
end
structure MW (w : World) (bm : Nat) (wr : World) (h : MH) (m : Mod) : Prop where
 b : Below w.heap.size w wr
 blk : Blk wr bm 32 #[.slice h.s m.sT.length h.sc, .slice h.f m.fT.length h.fc, .slice h.r m.rT.length h.rc, .slice h.m m.mT.length h.mc, .slice h.l m.lT.length h.lc, .slice h.i m.iT.length h.ic, .int .i64 m.dT, .int .i64 m.oT, .int .i64 m.vT, .int .i64 m.aT, .slice h.u m.uT.length h.uc]
section
variable {w wr w2 : World} {bm : Nat} {h : MH} {m : Mod}
theorem MW.start (w : World) (h : MH) (m : Mod) : MW w w.heap.size (w.alloc (.cells #[.slice h.s m.sT.length h.sc, .slice h.f m.fT.length h.fc, .slice h.r m.rT.length h.rc, .slice h.m m.mT.length h.mc, .slice h.l m.lT.length h.lc, .slice h.i m.iT.length h.ic, .int .i64 m.dT, .int .i64 m.oT, .int .i64 m.vT, .int .i64 m.aT, .slice h.u m.uT.length h.uc] 32)) h m := ⟨(Below.refl _ _).alloc (Nat.le_refl _) _, Blk.new _ _ _⟩
theorem MW.lt (d : MW w bm wr h m) : bm < wr.heap.size := Blk.lt d.blk
theorem MW.grow (d : MW w bm wr h m) (hb : Below wr.heap.size wr w2) : MW w bm w2 h m := ⟨d.b.trans (hb.mono d.b.size), d.blk.below hb d.lt⟩
theorem MW.drewN (d : MW w bm wr h m) (n : Nat) : MW w bm (wr.drewN n) h m := by
 induction n with
 | zero => exact d
 | succ n ih => exact ⟨ih.b.drew, ih.blk⟩
theorem MW.md (d : MW w bm wr h m) (hd : MD w w.heap.size h m) : MD wr wr.heap.size h m := hd.grow d.b
theorem MB.cells (d : Blk wr bm 32 #[.slice h.s m.sT.length h.sc, .slice h.f m.fT.length h.fc, .slice h.r m.rT.length h.rc, .slice h.m m.mT.length h.mc, .slice h.l m.lT.length h.lc, .slice h.i m.iT.length h.ic, .int .i64 m.dT, .int .i64 m.oT, .int .i64 m.vT, .int .i64 m.aT, .slice h.u m.uT.length h.uc]) :
    wr.cell? ⟨bm, 0, none⟩ = some (.slice h.s m.sT.length h.sc) ∧ wr.cell? ⟨bm, 1, none⟩ = some (.slice h.f m.fT.length h.fc) ∧ wr.cell? ⟨bm, 2, none⟩ = some (.slice h.r m.rT.length h.rc) ∧ wr.cell? ⟨bm, 3, none⟩ = some (.slice h.m m.mT.length h.mc) ∧
    wr.cell? ⟨bm, 4, none⟩ = some (.slice h.l m.lT.length h.lc) ∧ wr.cell? ⟨bm, 5, none⟩ = some (.slice h.i m.iT.length h.ic) ∧ wr.cell? ⟨bm, 6, none⟩ = some (.int .i64 m.dT) ∧ wr.cell? ⟨bm, 7, none⟩ = some (.int .i64 m.oT) ∧
    wr.cell? ⟨bm, 8, none⟩ = some (.int .i64 m.vT) ∧ wr.cell? ⟨bm, 9, none⟩ = some (.int .i64 m.aT) ∧ wr.cell? ⟨bm, 10, none⟩ = some (.slice h.u m.uT.length h.uc) :=
 ⟨d.cell 0, d.cell 1, d.cell 2, d.cell 3, d.cell 4, d.cell 5, d.cell 6, d.cell 7, d.cell 8, d.cell 9, d.cell 10⟩
end
end Go.Proofs.YtcfogipaadhbeaaGreatDoor
