/- A part of the claim: see its last text. -/
import Derived.Test.YtcfogipaadhbeaaGreatDoorUK02
import Derived.Test.YtcfogipaadhbeaaGreatDoorUK01
import Derived.Test.YtcfogipaadhbeaaGreatDoorShelf
import Derived.Deep.Draws
import Derived.Laws.EntriesVeiled

set_option maxRecDepth 100000
set_option maxHeartbeats 16000000
namespace Go.Proofs.YtcfogipaadhbeaaGreatDoor
open Go Go.RowKit Go.Proofs
def mchN (m : Mod) (n : Int) : ByteArray := (m.mT[(n - 1).toNat]?.map (·.name)).getD ⟨#[]⟩
theorem mchN_is (m : Mod) {q : Nat} (h : q < m.mT.length) : mchN m ((q : Int) + 1) = m.mT[q].name := by
 simp [mchN, h]
theorem mchN_succ (m : Mod) (l : List Int) {k q : Nat} (h : k < l.length) (hq : l[k] = (q : Int) + 1) (hm : q < m.mT.length) : (l.take k).map (mchN m) ++ [m.mT[q].name] = (l.take (k + 1)).map (mchN m) := by
 rw [List.take_succ_eq_append_getElem h, List.map_append, List.map_singleton, hq, mchN_is m hm]
def itN (m : Mod) (n : Int) : ByteArray := (m.iT[(n - 1).toNat]?.map (·.name)).getD ⟨#[]⟩
theorem itN_is (m : Mod) {q : Nat} (h : q < m.iT.length) : itN m ((q : Int) + 1) = m.iT[q].name := by
 simp [itN, h]
def itNs (m : Mod) (l : List Int) : List ByteArray := (l.filter fun n => decide (0 < n)).map (itN m)
theorem itNs_yes (m : Mod) (l : List Int) {k q : Nat} (h : k < l.length) (hq : l[k] = (q : Int) + 1) (hm : q < m.iT.length) : itNs m (l.take k) ++ [m.iT[q].name] = itNs m (l.take (k + 1)) := by
 unfold itNs
 rw [List.take_succ_eq_append_getElem h, List.filter_append, List.map_append, hq]
 rw [List.filter_cons_of_pos (by simp), List.filter_nil, List.map_singleton, itN_is m hm]
theorem itNs_no (m : Mod) (l : List Int) {k : Nat} (h : k < l.length) (hq : l[k] ≤ 0) : itNs m (l.take k) = itNs m (l.take (k + 1)) := by
 unfold itNs
 rw [List.take_succ_eq_append_getElem h, List.filter_append, List.map_append]
 rw [List.filter_cons_of_neg (by simp; omega), List.filter_nil]; simp
theorem itNs_len (m : Mod) (l : List Int) : (itNs m l).length ≤ l.length := by
 unfold itNs; rw [List.length_map]; exact List.length_filter_le _ _
def numsR (x : RuleM) : List Int := if x.kind ∈ [1, 2, 5, 6] then [x.n] else []
def siteN (m : Mod) (n : Int) : ByteArray := (m.sT[(n - 1).toNat]?).getD ⟨#[]⟩
def feedN (m : Mod) (n : Int) : ByteArray := (m.fT[(n - 1).toNat]?).getD ⟨#[]⟩
def rackN (m : Mod) (n : Int) : ByteArray := (m.rT[(n - 1).toNat]?.map (·.name)).getD ⟨#[]⟩
theorem siteN_is (m : Mod) {q : Nat} (h : q < m.sT.length) : siteN m ((q : Int) + 1) = m.sT[q] := by simp [siteN, h]
theorem feedN_is (m : Mod) {q : Nat} (h : q < m.fT.length) : feedN m ((q : Int) + 1) = m.fT[q] := by simp [feedN, h]
theorem rackN_is (m : Mod) {q : Nat} (h : q < m.rT.length) : rackN m ((q : Int) + 1) = m.rT[q].name := by simp [rackN, h]
def siteD (s : ByteArray) : Decl := ⟨0, s, [], [], 0, false⟩
def feedD (s : ByteArray) : Decl := ⟨1, s, [], [], 0, false⟩
def rackD (m : Mod) (x : RackM) : Decl := ⟨2, x.name, [siteN m x.site, feedN m x.feed], [], 0, false⟩
def machD (m : Mod) (x : MachM) : Decl := ⟨3, x.name, [rackN m x.rack], [x.cap], 0, false⟩
def linkD (m : Mod) (x : LinkM) : Decl := ⟨4, ⟨#[]⟩, [siteN m x.a, siteN m x.b], [x.cap], 0, false⟩
def itemD (m : Mod) (x : ItemM) : Decl := ⟨5 + x.kind, x.name, x.on.map (mchN m), (if x.kind = 1 then [x.count] else []) ++ [x.load, x.size, x.share], 0, false⟩
def darkD (m : Mod) : Decl := ⟨8, ⟨#[]⟩, [siteN m m.dT], [m.oT, m.vT], 0, false⟩
def failD (m : Mod) : List Decl := if 0 < m.aT then [⟨9, ⟨#[]⟩, [], [], m.aT, false⟩] else []
def ruleDl (m : Mod) (x : RuleM) : Decl := ⟨10 + x.kind, ⟨#[]⟩, itNs m [x.item, x.other] ++ x.machines.map (mchN m), numsR x, x.by_, x.always⟩
def dec1 (m : Mod) : List Decl := m.sT.map siteD
def dec2 (m : Mod) : List Decl := dec1 m ++ m.fT.map feedD
def dec3 (m : Mod) : List Decl := dec2 m ++ m.rT.map (rackD m)
def dec4 (m : Mod) : List Decl := dec3 m ++ m.mT.map (machD m)
def dec5 (m : Mod) : List Decl := dec4 m ++ m.lT.map (linkD m)
def dec6 (m : Mod) : List Decl := dec5 m ++ m.iT.map (itemD m)
def dec7 (m : Mod) : List Decl := dec6 m ++ [darkD m] ++ failD m
def declsM (m : Mod) : List Decl := dec7 m ++ m.uT.map (ruleDl m)
theorem dec_succ {α : Type} (pre : List Decl) (f : α → Decl) (l : List α) {k : Nat} (h : k < l.length) : (pre ++ (l.take k).map f) ++ [f l[k]] = pre ++ (l.take (k + 1)).map f := by
 rw [List.take_succ_eq_append_getElem h, List.map_append, List.append_assoc]; rfl
theorem names_small {m : Mod} (h : namesB m = true) : ∀ s ∈ nameList m, s.size ≤ 31 := by
 intro s hs
 obtain ⟨i, hi, rfl⟩ := List.getElem_of_mem hs
 have := soundB_iff.1 h i hi
 simp only [Bool.and_eq_true] at this
 have h2 := this.1
 unfold isName at h2
 simp only [Bool.and_eq_true, decide_eq_true_eq] at h2
 exact h2.1.1.1.2
def sectI (k : Int) : Int := if 5 ≤ k ∧ k ≤ 7 then 5 else if 10 ≤ k then 10 else k
def secB (s : Int) (d : Decl) : Bool := decide (sectI d.kind = s)
def cntS (l : List Decl) (s : Int) : Nat := (l.filter (secB s)).length
def nmB (nm : ByteArray) (d : Decl) : Bool := decide (d.name = nm)
def findD (l : List Decl) (nm : ByteArray) : Option (Int × Int) :=
 match l.findIdx? (nmB nm) with
 | some i => (l[i]?).map fun d => (d.kind, (cntS (l.take (i + 1)) (sectI d.kind) : Int))
 | none => none
def numN (l : List Decl) (nm : ByteArray) : Int := match findD l nm with | some x => x.2 | none => 0
def clashB (d e : Decl) : Bool := (decide (d.name ≠ ⟨#[]⟩) && decide (e.name = d.name)) || ((decide (d.kind = 8) || decide (d.kind = 9)) && decide (e.kind = d.kind))
def firstE (pre : List Decl) (d : Decl) : Int := if validD d = false then 1 else if pre.any (clashB d) = true then 5 else 0
def firstBad (f : Nat → Int) : Nat → Option (Nat × Int)
 | 0 => none
 | n + 1 => match firstBad f n with
   | some x => some x
   | none => if f n = 0 then none else some (n, f n)
theorem firstBad_none {f : Nat → Int} : ∀ {n : Nat}, firstBad f n = none ↔ ∀ i, i < n → f i = 0
 | 0 => by simp [firstBad]
 | n + 1 => by
   have ih := firstBad_none (f := f) (n := n)
   unfold firstBad
   cases h : firstBad f n with
   | some x =>
     constructor
     · intro h2; cases h2
     · intro h2
       have := ih.2 (fun i hi => h2 i (by omega))
       rw [h] at this; cases this
   | none =>
     have h3 := ih.1 h
     by_cases h0 : f n = 0
     · simp only [h0, if_true, true_iff]
       intro i hi
       by_cases e : i = n
       · rw [e]; exact h0
       · exact h3 i (by omega)
     · simp only [h0, if_false, reduceCtorEq, false_iff]
       exact fun h2 => h0 (h2 n (by omega))
theorem firstBad_at {f : Nat → Int} : ∀ {n k : Nat}, k < n → f k ≠ 0 → (∀ i, i < k → f i = 0) → firstBad f n = some (k, f k)
 | 0, k, h, _, _ => by omega
 | n + 1, k, h, h0, hz => by
   unfold firstBad
   by_cases e : k = n
   · subst e
     rw [firstBad_none.2 hz]
     simp [h0]
   · rw [firstBad_at (n := n) (by omega) h0 hz]
theorem firstBad_is {f : Nat → Int} : ∀ {n k : Nat} {e : Int}, firstBad f n = some (k, e) → k < n ∧ e = f k ∧ f k ≠ 0 ∧ ∀ i, i < k → f i = 0
 | 0, k, e, h => by simp [firstBad] at h
 | n + 1, k, e, h => by
   unfold firstBad at h
   cases h2 : firstBad f n with
   | some x =>
     rw [h2] at h
     obtain rfl : x = (k, e) := Option.some.inj h
     obtain ⟨a, b, c, d⟩ := firstBad_is h2
     exact ⟨by omega, b, c, d⟩
   | none =>
     rw [h2] at h
     by_cases h0 : f n = 0
     · simp [h0] at h
     · simp only [h0, if_false, Option.some.injEq, Prod.mk.injEq] at h
       obtain ⟨rfl, rfl⟩ := h
       exact ⟨by omega, rfl, h0, firstBad_none.1 h2⟩
def collectR (l : List Decl) : Option (Nat × Int) := firstBad (fun i => match l[i]? with | some d => firstE (l.take i) d | none => 0) l.length
def wantB (dk : Int) (i : Nat) (k : Int) : Bool :=
 if dk = 2 then decide (k = if i = 0 then 0 else 1)
 else if dk = 3 then decide (k = 2)
 else if dk = 4 ∨ dk = 8 then decide (k = 0)
 else if dk = 10 then decide (k = 5)
 else if dk = 11 ∨ dk = 12 ∨ dk = 14 ∨ dk = 16 then decide (sectI k = 5)
 else if dk = 13 then (if i = 0 then decide (sectI k = 5) else decide (k = 3))
 else decide (k = 3)
def refsE (l : List Decl) (dk : Int) : Nat → List ByteArray → Int
 | _, [] => 0
 | i, r :: rs => match findD l r with
   | none => 4
   | some x => if wantB dk i x.1 = true then refsE l dk (i + 1) rs else 7
def machsD (d : Decl) : List ByteArray := if 5 ≤ d.kind ∧ d.kind ≤ 7 then d.refs else if d.kind = 13 then d.refs.drop 1 else []
def checkE (l : List Decl) (d : Decl) : Int :=
 if refsE l d.kind 0 d.refs ≠ 0 then refsE l d.kind 0 d.refs else if ¬ (machsD d).Nodup then 5 else if (d.kind = 4 ∨ d.kind = 14) ∧ d.refs[0]? = d.refs[1]? then 2 else 0
def checkR (l : List Decl) : Option (Nat × Int) := firstBad (fun i => match l[i]? with | some d => checkE l d | none => 0) l.length
def insI (n : Int) : List Int → List Int
 | [] => [n]
 | y :: l => if y < n then y :: insI n l else n :: y :: l
def sortI (l : List Int) : List Int := l.foldl (fun o n => insI n o) []
def lastN (d : Decl) : List Int := if d.kind = 6 then d.nums.drop 1 else d.nums
def itemA (l : List Decl) (d : Decl) : ItemM := ⟨d.name, d.kind - 5, if d.kind = 5 then d.refs.length else if d.kind = 6 then d.nums.getD 0 0 else 1, (lastN d).getD 0 0, (lastN d).getD 1 0, (lastN d).getD 2 0, sortI (d.refs.map (numN l))⟩
def refN (l : List Decl) (d : Decl) (i : Nat) : Int := match d.refs[i]? with | some r => numN l r | none => 0
def ruleA (l : List Decl) (d : Decl) : RuleM := ⟨d.kind - 10, refN l d 0, if d.kind = 14 then refN l d 1 else 0, d.nums.getD 0 0, d.by_, d.always, if d.kind = 13 then sortI ((d.refs.drop 1).map (numN l)) else []⟩
def zeroM : Mod := ⟨[], [], [], [], [], [], 0, 0, 0, 0, []⟩
def addM (l : List Decl) (m : Mod) (d : Decl) : Mod :=
 if d.kind = 0 then ⟨m.sT ++ [d.name], m.fT, m.rT, m.mT, m.lT, m.iT, m.dT, m.oT, m.vT, m.aT, m.uT⟩
 else if d.kind = 1 then ⟨m.sT, m.fT ++ [d.name], m.rT, m.mT, m.lT, m.iT, m.dT, m.oT, m.vT, m.aT, m.uT⟩
 else if d.kind = 2 then ⟨m.sT, m.fT, m.rT ++ [⟨d.name, refN l d 0, refN l d 1⟩], m.mT, m.lT, m.iT, m.dT, m.oT, m.vT, m.aT, m.uT⟩
 else if d.kind = 3 then ⟨m.sT, m.fT, m.rT, m.mT ++ [⟨d.name, refN l d 0, d.nums.getD 0 0⟩], m.lT, m.iT, m.dT, m.oT, m.vT, m.aT, m.uT⟩
 else if d.kind = 4 then ⟨m.sT, m.fT, m.rT, m.mT, m.lT ++ [⟨min (refN l d 0) (refN l d 1), max (refN l d 0) (refN l d 1), d.nums.getD 0 0⟩], m.iT, m.dT, m.oT, m.vT, m.aT, m.uT⟩
 else if 5 ≤ d.kind ∧ d.kind ≤ 7 then ⟨m.sT, m.fT, m.rT, m.mT, m.lT, m.iT ++ [itemA l d], m.dT, m.oT, m.vT, m.aT, m.uT⟩
 else if d.kind = 8 then ⟨m.sT, m.fT, m.rT, m.mT, m.lT, m.iT, refN l d 0, d.nums.getD 0 0, d.nums.getD 1 0, m.aT, m.uT⟩
 else if d.kind = 9 then ⟨m.sT, m.fT, m.rT, m.mT, m.lT, m.iT, m.dT, m.oT, m.vT, d.by_, m.uT⟩
 else ⟨m.sT, m.fT, m.rT, m.mT, m.lT, m.iT, m.dT, m.oT, m.vT, m.aT, m.uT ++ [ruleA l d]⟩
def buildM (l : List Decl) : Mod := l.foldl (addM l) zeroM
def modelR (l : List Decl) : Mod × Int × Int :=
 match collectR l with
 | some x => (zeroM, x.1, x.2)
 | none => match checkR l with
   | some x => (zeroM, x.1, x.2)
   | none => if l.any (fun d => decide (d.kind = 8)) = false then (zeroM, l.length, 6) else if validM (buildM l) = false then (zeroM, l.length, 2) else (buildM l, 0, 0)
/-! Finding names -/
theorem find_filter {p q : Decl → Bool} : ∀ {l : List Decl} {i : Nat}, (∀ e ∈ l, q e = true → p e = true) → l.findIdx? q = some i → (l.filter p).findIdx? q = some ((l.take i).filter p).length ∧ (l.filter p)[((l.take i).filter p).length]? = l[i]? ∧ ((l.take (i + 1)).filter p).length = ((l.take i).filter p).length + 1
 | [], i, _, h => by simp at h
 | a :: l, i, hq, h => by
   rw [List.findIdx?_cons] at h
   by_cases ha : q a = true
   · rw [if_pos ha] at h
     obtain rfl : 0 = i := Option.some.inj h
     have hp := hq a (List.mem_cons_self ..) ha
     simp [List.findIdx?_cons, ha, hp]
   · rw [if_neg ha] at h
     obtain ⟨j, hj, rfl⟩ := Option.map_eq_some_iff.1 h
     obtain ⟨h1, h2, h3⟩ := find_filter (p := p) (fun e he => hq e (List.mem_cons_of_mem _ he)) hj
     by_cases hp : p a = true
     · simp [List.findIdx?_cons, ha, hp, h1, h2, h3]
     · simp [hp, h1, h2, h3]
theorem findD_sec {l F : List Decl} {s : Int} (hF : l.filter (secB s) = F) {q : Nat} (hq : q < F.length) (hs : ∀ e ∈ l, e.name = F[q].name → sectI e.kind = s) (hn : ∀ j (hj : j < q), (F[j]'(by omega)).name ≠ F[q].name) : findD l F[q].name = some (F[q].kind, (q : Int) + 1) := by
 have hFq : F.findIdx? (nmB F[q].name) = some q := by
  rw [List.findIdx?_eq_some_iff_getElem]
  exact ⟨hq, by simp [nmB], fun j hj => by simp only [nmB, decide_eq_true_eq]; exact hn j hj⟩
 have hm : F[q] ∈ l := by
  have : F[q] ∈ l.filter (secB s) := by rw [hF]; exact List.getElem_mem hq
  exact (List.mem_filter.1 this).1
 cases hi : l.findIdx? (nmB F[q].name) with
 | none =>
   have := List.findIdx?_eq_none_iff.1 hi F[q] hm
   simp [nmB] at this
 | some i =>
   obtain ⟨h1, h2, h3⟩ := find_filter (p := secB s) (fun e he hb => by simp only [nmB, decide_eq_true_eq] at hb; simp only [secB, decide_eq_true_eq]; exact hs e he hb) hi
   rw [hF, hFq] at h1
   obtain h1 : q = ((l.take i).filter (secB s)).length := Option.some.inj h1
   rw [hF, ← h1, List.getElem?_eq_getElem hq] at h2
   have hsec : sectI F[q].kind = s := hs _ hm rfl
   unfold findD
   rw [hi]
   simp only [← h2, Option.map_some]
   rw [hsec, cntS, h3, ← h1]
   rfl
def exL : List Decl := [⟨8, ⟨#[]⟩, [(⟨#[97]⟩ : ByteArray)], [2, 0], 0, false⟩, ⟨3, (⟨#[109]⟩ : ByteArray), [(⟨#[114]⟩ : ByteArray)], [3], 0, false⟩, ⟨2, (⟨#[114]⟩ : ByteArray), [(⟨#[97]⟩ : ByteArray), (⟨#[102]⟩ : ByteArray)], [], 0, false⟩, ⟨1, (⟨#[102]⟩ : ByteArray), [], [], 0, false⟩, ⟨0, (⟨#[97]⟩ : ByteArray), [], [], 0, false⟩, ⟨7, (⟨#[106]⟩ : ByteArray), [(⟨#[109]⟩ : ByteArray)], [1, 0, 1], 0, false⟩]
def exM : Mod := ⟨[(⟨#[97]⟩ : ByteArray)], [(⟨#[102]⟩ : ByteArray)], [⟨(⟨#[114]⟩ : ByteArray), 1, 1⟩], [⟨(⟨#[109]⟩ : ByteArray), 1, 3⟩], [], [⟨(⟨#[106]⟩ : ByteArray), 2, 1, 1, 0, 1, [1]⟩], 1, 2, 0, 0, []⟩
theorem ex_valid : validM exM = true := by decide +kernel
theorem ex_build : buildM exL = exM := by rfl
theorem ex_collect : collectR exL = none := by decide +kernel
theorem ex_check : checkR exL = none := by decide +kernel
theorem ex_model : modelR exL = (exM, 0, 0) := by
 unfold modelR
 rw [ex_collect, ex_check, ex_build, ex_valid]
 rfl
theorem ex_again : collectR (exL ++ [⟨0, (⟨#[109]⟩ : ByteArray), [], [], 0, false⟩]) = some (6, 5) := by decide +kernel
theorem ex_twice : modelR (exL ++ [⟨0, (⟨#[109]⟩ : ByteArray), [], [], 0, false⟩]) = (zeroM, 6, 5) := by
 unfold modelR
 rw [ex_again]
 rfl
def OwnI (B : Nat) (w : World) (v : Value) (l : List Int) : Prop := w.ownsRow B 3 1 v l.length (l.map (.int .i64))
theorem infoI : (Tryz.prog.info? 3).map (fun i => (i.zero, i.size, i.bytes)) = some (some (.int .i64 0), 1, 8) := by kernel_rfl
theorem OwnI.nil_ (B : Nat) (w : World) : OwnI B w (.slice none 0 0) [] := World.ownsRow_nil _ _ _ _
theorem OwnI.new {B : Nat} (w : World) (l : List Int) (hB : B ≤ w.heap.size) (hl : l.length ≤ maxLen) : OwnI B (w.alloc (.cells (l.map (Value.int .i64)).toArray 3)) (.slice (some ⟨w.heap.size, 0, none⟩) l.length l.length) l := by
 have := World.ownsRow_lit (e := 3) (size := 1) w (l.map (Value.int .i64)).toArray l.length hB hl (by simp)
 simpa [OwnI] using this
theorem OwnI.kept {B : Nat} {w w' : World} {v : Value} {l : List Int} (h : OwnI B w v l) {row : Option Nat} (hg : w.grownBy w' row) (hne : v.ownBlock = none ∨ v.ownBlock ≠ row) : OwnI B w' v l := World.ownsRow.kept h hg hne
theorem OwnI.below {B : Nat} {w w' : World} {v : Value} {l : List Int} (h : OwnI B w v l) (hb : Below w.heap.size w w') : OwnI B w' v l := by
 refine h.kept (grown_of_below hb none) ?_
 cases hv : v.ownBlock
 · exact .inl rfl
 · exact .inr (by simp)
theorem OwnI.alloc {B : Nat} {w : World} {v : Value} {l : List Int} (h : OwnI B w v l) (o : Obj) : OwnI B (w.alloc o) v l := World.ownsRow.alloc h o
theorem OwnI.lt {B : Nat} {w : World} {v : Value} {l : List Int} (h : OwnI B w v l) : ∀ k, v.ownBlock = some k → B ≤ k ∧ k < w.heap.size := World.ownsRow.lt h
theorem OwnI.form {B : Nat} {w : World} {v : Value} {l : List Int} (h : OwnI B w v l) : ∃ A c, v = .slice A l.length c ∧ l.length ≤ c ∧ Ints w w.heap.size A l := by
 have h2 := h
 rcases h2.2 with ⟨rfl, h0⟩ | ⟨g, cap, cur, rfl, _, _, hc, _⟩
 · have : l = [] := List.eq_nil_of_length_eq_zero h0
   subst this
   exact ⟨none, 0, rfl, Nat.le_refl _, Reads.none_⟩
 · exact ⟨_, _, rfl, hc, Reads.of_own h⟩
theorem append_ints {ops : Array Oper} {rest : List Oper} {o : Oper} {a : Act} {Q : Exit → Act → World → Prop} {w : World} (hgd : o.guard = none) (s x : Operand)
    (ho : o.op = .call { callee := .builtin .append, args := #[s, x], argTypes := #[41, 41] })
    (base : Nat) (v : Value) (l : List Int) (hs : a.eval s = v) (hown : OwnI base w v l)
    (B : Nat) (A : Option Addr) (c : Nat) (m : List Int) (hx : a.eval x = .slice A m.length c) (hr : Ints w B A m)
    (hlen : l.length + m.length ≤ 1099511627776) (hbase : base ≤ w.heap.size)
    (h : ∀ v' w', OwnI base w' v' (l ++ m) → w.grownBy w' v.ownBlock → (v'.ownBlock = v.ownBlock ∨ v'.ownBlock = some w.heap.size) → wpList Tryz.prog ops Q rest (a.put o.dst v') w') : wpList Tryz.prog ops Q (o :: rest) a w := by
 obtain ⟨i0, hi, hz0, hz1, hz2⟩ := info_parts infoI
 refine wpList_plain hgd fun _ hK => wp_append_any w s x 41 ho base 3 i0 _ 1 8 Tryz.underlying41 hi hz0 hz1 hz2 rfl (by omega) v l.length (l.map (.int .i64)) hs hown B A m.length c (m.map (.int .i64)) hx hr ?_ ?_ ?_ hbase
  fun v' w' h2 h3 h4 => hK _ _ (h v' w' ?_ h3 h4)
 · intro u hu
   obtain ⟨y, _, rfl⟩ := List.mem_map.1 hu
   rfl
 · unfold maxLen; omega
 · omega
 · unfold OwnI; rw [List.map_append, List.length_append]; exact h2
theorem Ints.newRow2 (w : World) {b : Nat} (t : TypeId) (l : List Int) (hb : b = w.heap.size) : Ints (w.alloc (.cells (l.map (Value.int .i64)).toArray t)) (w.heap.size + 1) (some ⟨b, 0, none⟩) l := by
 subst hb
 have := Reads.newRow w (l.map (Value.int .i64)).toArray t l.length 1 (by simp)
 simpa [Ints] using this
structure But (g B : Nat) (w w' : World) : Prop where
 os : w'.os = w.os
 tape : w'.tape = w.tape
 output : w'.output = w.output
 size : w.heap.size ≤ w'.heap.size
 block : ∀ k, k < B → k ≠ g → w'.heap[k]? = w.heap[k]?
theorem But.refl (g B : Nat) (w : World) : But g B w w := ⟨rfl, rfl, rfl, Nat.le_refl _, fun _ _ _ => rfl⟩
theorem But.trans {g B : Nat} {a b c : World} (h : But g B a b) (k : But g B b c) : But g B a c :=
 ⟨k.os.trans h.os, k.tape.trans h.tape, k.output.trans h.output, Nat.le_trans h.size k.size, fun i hi hn => (k.block i hi hn).trans (h.block i hi hn)⟩
theorem But.mono {g B B' : Nat} {w w' : World} (h : But g B w w') (hB : B' ≤ B) : But g B' w w' := ⟨h.os, h.tape, h.output, h.size, fun k hk hn => h.block k (Nat.lt_of_lt_of_le hk hB) hn⟩
theorem But.ofBelow {g B : Nat} {w w' : World} (h : Below B w w') : But g B w w' := ⟨h.os, h.tape, h.output, h.size, fun k hk _ => h.block k hk⟩
theorem But.below {g B : Nat} {w w' : World} (h : But g B w w') (hg : g ≤ B) : Below g w w' := ⟨h.os, h.tape, h.output, h.size, fun k hk => h.block k (by omega) (by omega)⟩
theorem But.cell {g B : Nat} {w w' : World} (h : But g B w w') {p : Addr} (hp : p.block < B) (hn : p.block ≠ g) : w'.cell? p = w.cell? p := World.cell?_of_block (h.block p.block hp hn)
theorem But.blk {g B b : Nat} {w w' : World} {t : TypeId} {cs : Array Value} (h : But g B w w') (hB : Blk w b t cs) (hb : b < B) (hn : b ≠ g) : Blk w' b t cs := (h.block b hb hn).trans hB
theorem But.grown {g : Nat} {w w' : World} (h : But g w.heap.size w w') : w.grownBy w' (some g) := ⟨h.os, h.tape, h.output, h.size, fun k hk hn => h.block k hk (fun e => hn (by rw [e]))⟩
theorem But.set_ {g B : Nat} (w : World) (i : Nat) (u : Value) : But g B w (w.setCell ⟨g, i, none⟩ u) :=
 ⟨rfl, rfl, rfl, by simp [World.setCell], fun k _ hn => Below.heap_setCell w ⟨g, i, none⟩ u k hn⟩
theorem But.ofGrown {g B : Nat} {w w' : World} {row : Option Nat} (h : w.grownBy w' row) (hB : B ≤ w.heap.size) (hr : ∀ k, row = some k → B ≤ k) : But g B w w' :=
 ⟨h.os, h.tape, h.output, h.size, fun k hk _ => h.block k (by omega) (fun e => by have := hr k e.symm; omega)⟩
def Off (g : Nat) (A : Option Addr) : Prop := ∀ ad, A = some ad → ad.block ≠ g
theorem Reads.but {w w' : World} {B size n g : Nat} {A : Option Addr} {xs : List Value} (h : Reads w B size A n xs) (hA : Off g A) (hb : But g B w w') : Reads w' B size A n xs :=
 ⟨h.1, fun hn => by
   obtain ⟨ad, e, hlt, hc⟩ := h.2 hn
   exact ⟨ad, e, hlt, fun j u hu => (hb.cell (by rw [block_of_add]; exact hlt) (by rw [block_of_add]; exact hA ad e)).trans (hc j u hu)⟩⟩
theorem OwnS.but {B g : Nat} {w w' : World} {v : Value} {l : List ByteArray} (h : OwnS B w v l) (hb : But g w.heap.size w w') (hg : g < B) : OwnS B w' v l := by
 refine h.kept hb.grown ?_
 cases hv : v.ownBlock
 · exact .inl rfl
 · refine .inr (fun e => ?_)
   have := h.lt _ hv
   have e2 := Option.some.inj e
   omega
theorem OwnI.but {B g : Nat} {w w' : World} {v : Value} {l : List Int} (h : OwnI B w v l) (hb : But g w.heap.size w w') (hg : g < B) : OwnI B w' v l := by
 refine h.kept hb.grown ?_
 cases hv : v.ownBlock
 · exact .inl rfl
 · refine .inr (fun e => ?_)
   have := h.lt _ hv
   have e2 := Option.some.inj e
   omega
def declCells (d : Decl) (ra : Option Addr) (rc : Nat) (na : Option Addr) (nc : Nat) : List Value :=
 [.int .i64 d.kind, .string d.name, .slice ra d.refs.length rc, .slice na d.nums.length nc, .int .i64 d.by_, .bool d.always]
def Fine (d : Decl) : Prop := d.name.size ≤ 9223372036854775807 ∧ (∀ s ∈ d.refs, s.size ≤ 9223372036854775807) ∧ d.refs.length ≤ 9223372036854775807 ∧ d.nums.length ≤ 9223372036854775807
def DeclAt (w : World) (B : Nat) (a : Addr) (d : Decl) : Prop :=
 ∃ ra rc na nc, (∀ (j : Nat) u, (declCells d ra rc na nc)[j]? = some u → w.cell? (a.add j) = some u) ∧ (d.refs.length ≤ rc ∧ d.nums.length ≤ nc) ∧ Strs w B ra d.refs ∧ Ints w B na d.nums ∧ Fine d
def Decls (w : World) (B : Nat) (A : Option Addr) (l : List Decl) : Prop :=
 ∀ (i : Nat) (hi : i < l.length), ∃ ad, A = some ad ∧ ad.block < B ∧ DeclAt w B (ad.add (i * 6)) l[i]
theorem DeclAt.keep {w w' : World} {B : Nat} {a : Addr} {d : Decl} (h : DeclAt w B a d) (ha : a.block < B) (hk : ∀ p : Addr, p.block < B → w'.cell? p = w.cell? p) : DeclAt w' B a d := by
 obtain ⟨ra, rc, na, nc, hc, h1, h2, h3, h4⟩ := h
 exact ⟨ra, rc, na, nc, fun j u hu => (hk _ (by rw [block_of_add]; exact ha)).trans (hc j u hu), h1, h2.keep hk, h3.keep hk, h4⟩
theorem DeclAt.more {w : World} {B B' : Nat} {a : Addr} {d : Decl} (h : DeclAt w B a d) (hB : B ≤ B') : DeclAt w B' a d := by
 obtain ⟨ra, rc, na, nc, hc, h1, h2, h3, h4⟩ := h
 exact ⟨ra, rc, na, nc, hc, h1, h2.more hB, h3.more hB, h4⟩
theorem Decls.keep {w w' : World} {B : Nat} {A : Option Addr} {l : List Decl} (h : Decls w B A l) (hk : ∀ p : Addr, p.block < B → w'.cell? p = w.cell? p) : Decls w' B A l :=
 fun i hi => by
  obtain ⟨ad, rfl, hb, hd⟩ := h i hi
  exact ⟨ad, rfl, hb, hd.keep (by rw [block_of_add]; exact hb) hk⟩
theorem Decls.below {w w' : World} {B : Nat} {A : Option Addr} {l : List Decl} (h : Decls w B A l) (hb : Below B w w') : Decls w' B A l := h.keep fun _ hp => hb.cell hp
theorem Decls.more {w : World} {B B' : Nat} {A : Option Addr} {l : List Decl} (h : Decls w B A l) (hB : B ≤ B') : Decls w B' A l :=
 fun i hi => by
  obtain ⟨ad, rfl, hb, hd⟩ := h i hi
  exact ⟨ad, rfl, Nat.lt_of_lt_of_le hb hB, hd.more hB⟩
end Go.Proofs.YtcfogipaadhbeaaGreatDoor
namespace Go.Proofs.YtcfogipaadhbeaaGreatDoor
open Go Go.RowKit Go.Proofs
theorem Decls.at_ {w : World} {B : Nat} {A : Option Addr} {l : List Decl} (h : Decls w B A l) {i : Nat} (hi : i < l.length) :
    ∃ b off ra rc na nc, A = some ⟨b, off, none⟩ ∧ b < B ∧ w.cell? ⟨b, off + i * 6, none⟩ = some (.int .i64 l[i].kind) ∧ w.cell? ⟨b, off + i * 6 + 1, none⟩ = some (.string l[i].name) ∧ w.cell? ⟨b, off + i * 6 + 2, none⟩ = some (.slice ra l[i].refs.length rc) ∧
     w.cell? ⟨b, off + i * 6 + 3, none⟩ = some (.slice na l[i].nums.length nc) ∧ w.cell? ⟨b, off + i * 6 + 4, none⟩ = some (.int .i64 l[i].by_) ∧ w.cell? ⟨b, off + i * 6 + 5, none⟩ = some (.bool l[i].always) ∧
     l[i].refs.length ≤ rc ∧ Strs w B ra l[i].refs ∧ Ints w B na l[i].nums ∧ Fine l[i] := by
 obtain ⟨ad, rfl, hb, hd⟩ := h 0 (by omega)
 obtain ⟨b, off, spot⟩ := ad
 obtain ⟨_, _, _, _, hc, _⟩ := hd
 have hs : spot = none := by simpa [Addr.add] using World.cell?_spot (hc 0 _ rfl)
 subst hs
 obtain ⟨ad, e, hb2, ra, rc, na, nc, hc2, h1, h2, h3, h4⟩ := h i hi
 obtain rfl : (⟨b, off, none⟩ : Addr) = ad := Option.some.inj e
 have key : ∀ j u, (declCells l[i] ra rc na nc)[j]? = some u → w.cell? ⟨b, off + i * 6 + j, none⟩ = some u := fun j u hu => by
  rw [← add_none, ← add_none]; exact hc2 j u hu
 exact ⟨b, off, ra, rc, na, nc, rfl, hb2, key 0 _ rfl, key 1 _ rfl, key 2 _ rfl, key 3 _ rfl, key 4 _ rfl, key 5 _ rfl, h1.1, h2, h3, h4⟩
theorem Decls.at2_ {w : World} {B : Nat} {A : Option Addr} {l : List Decl} (h : Decls w B A l) {i : Nat} (hi : i < l.length) :
    ∃ b off ra rc na nc, A = some ⟨b, off, none⟩ ∧ b < B ∧ w.cell? ⟨b, off + i * 6, none⟩ = some (.int .i64 l[i].kind) ∧ w.cell? ⟨b, off + i * 6 + 1, none⟩ = some (.string l[i].name) ∧ w.cell? ⟨b, off + i * 6 + 2, none⟩ = some (.slice ra l[i].refs.length rc) ∧
     w.cell? ⟨b, off + i * 6 + 3, none⟩ = some (.slice na l[i].nums.length nc) ∧ w.cell? ⟨b, off + i * 6 + 4, none⟩ = some (.int .i64 l[i].by_) ∧ w.cell? ⟨b, off + i * 6 + 5, none⟩ = some (.bool l[i].always) ∧
     (l[i].refs.length ≤ rc ∧ l[i].nums.length ≤ nc) ∧ Strs w B ra l[i].refs ∧ Ints w B na l[i].nums ∧ Fine l[i] := by
 obtain ⟨ad, rfl, hb, hd⟩ := h 0 (by omega)
 obtain ⟨b, off, spot⟩ := ad
 obtain ⟨_, _, _, _, hc, _⟩ := hd
 have hs : spot = none := by simpa [Addr.add] using World.cell?_spot (hc 0 _ rfl)
 subst hs
 obtain ⟨ad, e, hb2, ra, rc, na, nc, hc2, h1, h2, h3, h4⟩ := h i hi
 obtain rfl : (⟨b, off, none⟩ : Addr) = ad := Option.some.inj e
 have key : ∀ j u, (declCells l[i] ra rc na nc)[j]? = some u → w.cell? ⟨b, off + i * 6 + j, none⟩ = some u := fun j u hu => by
  rw [← add_none, ← add_none]; exact hc2 j u hu
 exact ⟨b, off, ra, rc, na, nc, rfl, hb2, key 0 _ rfl, key 1 _ rfl, key 2 _ rfl, key 3 _ rfl, key 4 _ rfl, key 5 _ rfl, h1, h2, h3, h4⟩
end Go.Proofs.YtcfogipaadhbeaaGreatDoor
