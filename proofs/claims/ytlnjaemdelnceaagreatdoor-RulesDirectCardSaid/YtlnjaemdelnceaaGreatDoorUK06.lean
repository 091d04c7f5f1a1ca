/- A part of the claim: see its last text. -/
import Derived.Test.YtlnjaemdelnceaaGreatDoorUK02
import Derived.Test.YtlnjaemdelnceaaGreatDoorUK05
import Derived.Test.YtlnjaemdelnceaaGreatDoorUK01
import Derived.Test.YtlnjaemdelnceaaGreatDoorUK03
import Derived.Deep.RegionHeld3

set_option maxRecDepth 100000
set_option maxHeartbeats 16000000
namespace Go.Proofs.YtlnjaemdelnceaaGreatDoor
open Go Go.RowKit Go.Proofs
def siteN (m : Mod) (n : Int) : ByteArray := (m.sT[(n - 1).toNat]?).getD ⟨#[]⟩
def feedN (m : Mod) (n : Int) : ByteArray := (m.fT[(n - 1).toNat]?).getD ⟨#[]⟩
def rackN (m : Mod) (n : Int) : ByteArray := (m.rT[(n - 1).toNat]?.map (·.name)).getD ⟨#[]⟩
theorem siteN_is (m : Mod) {q : Nat} (h : q < m.sT.length) : siteN m ((q : Int) + 1) = m.sT[q] := by simp [siteN, h]
theorem feedN_is (m : Mod) {q : Nat} (h : q < m.fT.length) : feedN m ((q : Int) + 1) = m.fT[q] := by simp [feedN, h]
theorem rackN_is (m : Mod) {q : Nat} (h : q < m.rT.length) : rackN m ((q : Int) + 1) = m.rT[q].name := by simp [rackN, h]
def siteD (s : ByteArray) : Decl := ⟨0, s, [], [], 0, false⟩
def feedD (s : ByteArray) : Decl := ⟨1, s, [], [], 0, false⟩
def rackD (m : Mod) (x : RackM) : Decl := ⟨2, x.name, [siteN m x.site, feedN m x.feed], [], 0, false⟩
def machD (m : Mod) (x : MachM) : Decl := ⟨3, x.name, [rackN m x.rack], [x.cap], 0, false⟩
def linkD (m : Mod) (x : LinkM) : Decl := ⟨4, ⟨#[]⟩, [siteN m x.a, siteN m x.b], [x.cap], 0, false⟩
def itemD (m : Mod) (x : ItemM) : Decl := ⟨5 + x.kind, x.name, x.on.map (mchN m), (if x.kind = 1 then [x.count] else []) ++ [x.load, x.size, x.share], 0, false⟩
def darkD (m : Mod) : Decl := ⟨8, ⟨#[]⟩, [siteN m m.dT], [m.oT, m.vT], 0, false⟩
def failD (m : Mod) : List Decl := if 0 < m.aT then [⟨9, ⟨#[]⟩, [], [], m.aT, false⟩] else []
def ruleDl (m : Mod) (x : RuleM) : Decl := ⟨10 + x.kind, ⟨#[]⟩, itNs m [x.item, x.other] ++ x.machines.map (mchN m), numsR x, x.by_, x.always⟩
def dec1 (m : Mod) : List Decl := m.sT.map siteD
def dec2 (m : Mod) : List Decl := dec1 m ++ m.fT.map feedD
def dec3 (m : Mod) : List Decl := dec2 m ++ m.rT.map (rackD m)
def dec4 (m : Mod) : List Decl := dec3 m ++ m.mT.map (machD m)
def dec5 (m : Mod) : List Decl := dec4 m ++ m.lT.map (linkD m)
def dec6 (m : Mod) : List Decl := dec5 m ++ m.iT.map (itemD m)
def dec7 (m : Mod) : List Decl := dec6 m ++ [darkD m] ++ failD m
def declsM (m : Mod) : List Decl := dec7 m ++ m.uT.map (ruleDl m)
theorem dec_succ {α : Type} (pre : List Decl) (f : α → Decl) (l : List α) {k : Nat} (h : k < l.length) : (pre ++ (l.take k).map f) ++ [f l[k]] = pre ++ (l.take (k + 1)).map f := by
 rw [List.take_succ_eq_append_getElem h, List.map_append, List.append_assoc]; rfl
theorem names_small {m : Mod} (h : namesB m = true) : ∀ s ∈ nameList m, s.size ≤ 31 := by
 intro s hs
 obtain ⟨i, hi, rfl⟩ := List.getElem_of_mem hs
 have := soundB_iff.1 h i hi
 simp only [Bool.and_eq_true] at this
 have h2 := this.1
 unfold isName at h2
 simp only [Bool.and_eq_true, decide_eq_true_eq] at h2
 exact h2.1.1.1.2
structure DS (w wr : World) (h : MH) (m : Mod) (bo : Nat) (ds : List Decl) : Prop where
 mw : MW w w.heap.size wr h m
 lt : w.heap.size < bo
 out : ∃ v L, Blk wr bo 97 #[v] ∧ OutD (bo + 1) wr v L ∧ L.map (·.1) = ds
section
variable {w wr w2 : World} {h : MH} {m : Mod} {bo : Nat} {ds : List Decl}
theorem DS.size (d : DS w wr h m bo ds) : bo < wr.heap.size := by obtain ⟨v, L, hb, _⟩ := d.out; exact hb.lt
theorem DS.drew (d : DS w wr h m bo ds) : DS w wr.drew h m bo ds := ⟨d.mw.drew, d.lt, d.out⟩
theorem DS.grow (d : DS w wr h m bo ds) (hb : Below wr.heap.size wr w2) : DS w w2 h m bo ds := by
 obtain ⟨v, L, h1, h2, h3⟩ := d.out
 exact ⟨d.mw.grow hb, d.lt, v, L, h1.below hb h1.lt, h2.below hb, h3⟩
def AddQ (w wr : World) (h : MH) (m : Mod) (bo : Nat) (ds : List Decl) (e : Ending) (w' : World) : Prop := e = .returned (.tuple #[]) ∧ DS w w' h m bo ds ∧ But bo (bo + 1) wr w' ∧ KeepX bo wr w'
theorem DS.add (d : DS w wr h m bo ds) (k : Int) (nm : ByteArray) (ra na : Option Addr) (rc nc : Nat) (refs : List ByteArray) (nums : List Int)
    (hr : OwnS (bo + 1) wr (.slice ra refs.length rc) refs) (hn : OwnI (bo + 1) wr (.slice na nums.length nc) nums) (hz : nm.size ≤ 16384 ∧ ∀ r ∈ refs, r.size ≤ 16384) (hl : ds.length ≤ 1000) :
    Calls Tryz.prog 101 #[.int .i64 k, .string nm, .slice ra refs.length rc, .slice na nums.length nc, .pointer (some ⟨bo, 0, none⟩)] wr (AddQ w wr h m bo (ds ++ [⟨k, nm, refs, nums, 0, false⟩])) := by
 obtain ⟨v, L, h1, h2, h3⟩ := d.out
 refine (add19 bo (bo + 1) k nm ra na rc nc refs nums v L wr h2 h1 (Nat.lt_succ_self _) h1.lt hr hn hz (by rw [← h3] at hl; simpa using hl)).mono ?_
 rintro e w' ⟨v', rfl, q1, q2, q3, q4⟩
 have hlt := d.lt
 exact ⟨rfl, ⟨⟨d.mw.b.trans ((q3.below (by omega)).mono (by omega)), q3.blk d.mw.blk (by omega) (by omega)⟩, d.lt, v', _, q2, q1, by simp [h3]⟩, q3, q4⟩
theorem DS.addN (d : DS w wr h m bo ds) (k : Int) (nm : ByteArray) (refs : List ByteArray) (hs : refs.length ≤ 16) (hz : nm.size ≤ 16384 ∧ ∀ r ∈ refs, r.size ≤ 16384) (hl : ds.length ≤ 1000) :
    Calls Tryz.prog 101 #[.int .i64 k, .string nm, .slice (some ⟨wr.heap.size, 0, none⟩) refs.length refs.length, .slice none 0 0, .pointer (some ⟨bo, 0, none⟩)] (wr.alloc (.cells (refs.map Value.string).toArray 9)).drew (AddQ w (wr.alloc (.cells (refs.map Value.string).toArray 9)).drew h m bo (ds ++ [⟨k, nm, refs, [], 0, false⟩])) :=
 (d.grow ((Below.refl _ _).alloc (Nat.le_refl _) _)).drew.add k nm _ none _ 0 refs [] (OwnS.new wr refs d.size (by unfold maxLen; omega)).drew (OwnI.nil_ _ _) hz hl
theorem DS.addNM (d : DS w wr h m bo ds) (k : Int) (nm : ByteArray) (refs : List ByteArray) (nums : List Int) (hs : refs.length ≤ 16 ∧ nums.length ≤ 16) (hz : nm.size ≤ 16384 ∧ ∀ r ∈ refs, r.size ≤ 16384) (hl : ds.length ≤ 1000) :
    Calls Tryz.prog 101 #[.int .i64 k, .string nm, .slice (some ⟨wr.heap.size, 0, none⟩) refs.length refs.length, .slice (some ⟨wr.heap.size + 1, 0, none⟩) nums.length nums.length, .pointer (some ⟨bo, 0, none⟩)] ((wr.alloc (.cells (refs.map Value.string).toArray 9)).alloc (.cells (nums.map (Value.int .i64)).toArray 3)).drew (AddQ w ((wr.alloc (.cells (refs.map Value.string).toArray 9)).alloc (.cells (nums.map (Value.int .i64)).toArray 3)).drew h m bo (ds ++ [⟨k, nm, refs, nums, 0, false⟩])) := by
 have hI := OwnI.new (B := bo + 1) (wr.alloc (.cells (refs.map Value.string).toArray 9)) nums (by have := d.size; simp; omega) (by unfold maxLen; omega)
 rw [show (wr.alloc (.cells (refs.map Value.string).toArray 9)).heap.size = wr.heap.size + 1 by simp] at hI
 exact ((d.grow ((Below.refl _ _).alloc (Nat.le_refl _) _)).grow ((Below.refl _ _).alloc (Nat.le_refl _) _)).drew.add k nm _ _ _ _ refs nums ((OwnS.new wr refs d.size (by unfold maxLen; omega)).alloc _).drew hI hz hl
theorem DS.addMN (d : DS w wr h m bo ds) (k : Int) (nm : ByteArray) (refs : List ByteArray) (nums : List Int) (hs : refs.length ≤ 16 ∧ nums.length ≤ 16) (hz : nm.size ≤ 16384 ∧ ∀ r ∈ refs, r.size ≤ 16384) (hl : ds.length ≤ 1000) :
    Calls Tryz.prog 101 #[.int .i64 k, .string nm, .slice (some ⟨wr.heap.size + 1, 0, none⟩) refs.length refs.length, .slice (some ⟨wr.heap.size, 0, none⟩) nums.length nums.length, .pointer (some ⟨bo, 0, none⟩)] ((wr.alloc (.cells (nums.map (Value.int .i64)).toArray 3)).alloc (.cells (refs.map Value.string).toArray 9)).drew (AddQ w ((wr.alloc (.cells (nums.map (Value.int .i64)).toArray 3)).alloc (.cells (refs.map Value.string).toArray 9)).drew h m bo (ds ++ [⟨k, nm, refs, nums, 0, false⟩])) := by
 have hS := OwnS.new (B := bo + 1) (wr.alloc (.cells (nums.map (Value.int .i64)).toArray 3)) refs (by have := d.size; simp; omega) (by unfold maxLen; omega)
 rw [show (wr.alloc (.cells (nums.map (Value.int .i64)).toArray 3)).heap.size = wr.heap.size + 1 by simp] at hS
 exact ((d.grow ((Below.refl _ _).alloc (Nat.le_refl _) _)).grow ((Below.refl _ _).alloc (Nat.le_refl _) _)).drew.add k nm _ _ _ _ refs nums hS.drew ((OwnI.new wr nums d.size (by unfold maxLen; omega)).alloc _) hz hl
theorem DS.addL (d : DS w wr h m bo ds) (k : Int) (nm : ByteArray) (ra na : Option Addr) (n1 n2 rc nc : Nat) (refs : List ByteArray) (nums : List Int) (e1 : n1 = refs.length) (e2 : n2 = nums.length)
    (hr : OwnS (bo + 1) wr (.slice ra n1 rc) refs) (hn : OwnI (bo + 1) wr (.slice na n2 nc) nums) (hz : nm.size ≤ 16384 ∧ ∀ r ∈ refs, r.size ≤ 16384) (hl : ds.length ≤ 1000) :
    Calls Tryz.prog 101 #[.int .i64 k, .string nm, .slice ra n1 rc, .slice na n2 nc, .pointer (some ⟨bo, 0, none⟩)] wr (AddQ w wr h m bo (ds ++ [⟨k, nm, refs, nums, 0, false⟩])) := by
 subst e1 e2
 exact d.add k nm ra na rc nc refs nums hr hn hz hl
theorem ds_push {x x3 : World} {v v3 : Value} {L : List DV} {dd : Decl} {ra na : Option Addr} {rc nc : Nat} {o : Obj} (hm : MW w w.heap.size x h m) (hlt : w.heap.size < bo) (hb : Blk x bo 97 #[v]) (hO : OutD (bo + 1) x v L)
    (hr : OwnS (bo + 1) x (.slice ra dd.refs.length rc) dd.refs) (hn : OwnI (bo + 1) x (.slice na dd.nums.length nc) dd.nums) (hz : dd.name.size ≤ 16384 ∧ ∀ r ∈ dd.refs, r.size ≤ 16384)
    (h3 : x3.ownsRow (bo + 1) 102 6 v3 (L ++ [((dd, .slice ra dd.refs.length rc, .slice na dd.nums.length nc) : DV)]).length ((L ++ [((dd, .slice ra dd.refs.length rc, .slice na dd.nums.length nc) : DV)]).flatMap cellsD)) (hg : (x.alloc o).grownBy x3 v.ownBlock) :
    DS w (x3.setCell ⟨bo, 0, none⟩ v3) h m bo (L.map (·.1) ++ [dd]) ∧ x3.cell? ⟨bo, 0, none⟩ = some v ∧ bo < x3.heap.size ∧ x3.frozen? ⟨bo, 0, none⟩ = false ∧ ∃ A3 n3 c3, v3 = .slice A3 n3 c3 := by
 have hbl := hb.lt
 have ho3 := OutD.pushed (bp := bo) hO hr hn (Nat.le_refl _) hz h3 hg (Nat.lt_succ_self _)
 have hb3 := (hb.alloc o).grown hg (fun e => by have := (World.ownsRow.lt hO.1 _ e.symm).1; omega)
 have q3 := ((But.ofBelow (g := bo) ((Below.refl (bo + 1) x).alloc hbl o)).trans (But.ofGrown hg (by simp; omega) fun k hk => (World.ownsRow.lt hO.1 _ hk).1)).trans (But.set_ x3 0 v3)
 exact ⟨⟨⟨hm.b.trans ((q3.below (by omega)).mono (by omega)), q3.blk hm.blk (by omega) (by omega)⟩, hlt, v3, _, hb3.set_ 0 _, ho3.but (But.set_ _ _ _) (Nat.lt_succ_self _), by simp⟩, hb3.cell 0, hb3.lt, hb3.frozen 0, by obtain ⟨A3, c3, hv, _⟩ := ho3.form; exact ⟨A3, _, c3, hv⟩⟩
end
theorem below_1 (X : World) (a : Obj) : Below X.heap.size X (X.alloc a).drew := ((Below.refl _ _).alloc (Nat.le_refl _) _).drew
theorem below_2 (X : World) (a b : Obj) : Below X.heap.size X ((X.alloc a).alloc b).drew := (((Below.refl _ _).alloc (Nat.le_refl _) _).alloc (by simp) _).drew
theorem OutD.lower {w : World} {B B' : Nat} {v : Value} {L : List DV} (h : OutD B' w v L) (hB : B ≤ B') : OutD B w v L :=
 ⟨own_lowerD h.1 hB, fun x hx => ⟨OwnS.lower (h.2 x hx).1 hB, OwnI.lower (h.2 x hx).2.1 hB, (h.2 x hx).2.2⟩⟩
theorem cut4 (k t : Nat) (T : TypeId) : 4 ≤ (Question.appendCap 4 k T).cut t ∧ (Question.appendCap 4 k T).cut t ≤ maxLen := by
 have h := Nat.mod_lt t (show 2 ^ 63 - 4 > 0 by decide)
 have e : (Question.appendCap 4 k T).cut t = 4 + t % (2 ^ 63 - 4) := rfl
 rw [e]
 unfold maxLen
 omega
theorem own4 (W : World) (B : Nat) (a b c d : Int) (cap : Nat) (h4 : 4 ≤ cap) (hm : cap ≤ maxLen) (hB : B ≤ W.heap.size) :
    OwnI B (W.alloc (.cells (#[.int .i64 a] ++ (#[.int .i64 b, .int .i64 c, .int .i64 d] ++ Builtin.zeroCells #[Value.int .i64 0] (cap - 4))) 3)) (.slice (some ⟨W.heap.size, 0, none⟩) 4 cap) [a, b, c, d] := by
 refine ⟨rfl, .inr ⟨W.heap.size, cap, _, rfl, hB, heap_alloc_new W _, h4, hm, ?_, ?_⟩⟩
 · simp [Builtin.zeroCells]; omega
 · simp
end Go.Proofs.YtlnjaemdelnceaaGreatDoor

namespace Go.Proofs.YtlnjaemdelnceaaGreatDoor
open Go
def firstI {α : Type} (p : α → Bool) (l : List α) : Int := match l.findIdx? p with | some k => k | none => -1
theorem firstI_at {α : Type} {p : α → Bool} {l : List α} {k : Nat} (hk : k < l.length) (h : p l[k] = true) (hb : ∀ j (hj : j < l.length), j < k → p l[j] = false) : firstI p l = k := by
 have : l.findIdx? p = some k := by
  rw [List.findIdx?_eq_some_iff_getElem]
  exact ⟨hk, h, fun j hj => by simpa using hb j (by omega) hj⟩
 rw [firstI, this]
theorem firstI_none {α : Type} {p : α → Bool} {l : List α} (hb : ∀ j (hj : j < l.length), p l[j] = false) : firstI p l = -1 := by
 have : l.findIdx? p = none := by
  rw [List.findIdx?_eq_none_iff]
  intro x hx; obtain ⟨j, hj, rfl⟩ := List.getElem_of_mem hx; exact hb j hj
 rw [firstI, this]
theorem firstI_any {α : Type} (p : α → Bool) (l : List α) : decide (0 ≤ firstI p l) = l.any p := by
 rw [firstI]
 cases h : l.findIdx? p with
 | some k =>
   have := (List.findIdx?_eq_some_iff_getElem.1 h)
   obtain ⟨hk, hp, _⟩ := this
   have ha : l.any p = true := by rw [List.any_eq_true]; exact ⟨l[k], List.getElem_mem _, hp⟩
   rw [ha]; simp
 | none =>
   rw [List.findIdx?_eq_none_iff] at h
   have ha : l.any p = false := by rw [List.any_eq_false]; intro x hx; simp [h x hx]
   rw [ha]; rfl
end Go.Proofs.YtlnjaemdelnceaaGreatDoor

namespace Go.Proofs.YtlnjaemdelnceaaGreatDoor
open Go Go.RowKit Go.Proofs
theorem below_drawn {B : Nat} {w w' : World} (h : Below B w w') (n : Nat) : Below B w (w'.drewN n) := by
 induction n with
 | zero => exact h
 | succ n ih => exact ih.drew
def PredRack (g : Nat) (lb : Array Value) (l : List RackM) (p : RackM → Bool) (w : World) : Prop :=
 ∀ (i : Nat) (_ : i < l.length) (W : World), Below w.heap.size w W → Calls Tryz.prog g (#[.agg #[.string l[i].name, .int .i64 l[i].site, .int .i64 l[i].feed]] ++ lb) W fun e w' => e = .returned (.bool (p l[i])) ∧ Below W.heap.size W w'
theorem indexFunc_Rack (g : Nat) (lb : Array Value) (eg : ∀ args w, (callFunc g args).run Tryz.prog w = .ok (.enter g args) w) (p : RackM → Bool) (A : Option Addr) (c : Nat) (l : List RackM) (w : World)
    (hl : l.length ≤ 9223372036854775807) (h : Rows encRack 3 w w.heap.size A l) (hp : PredRack g lb l p w) :
    Calls Tryz.prog 182 #[.slice A l.length c, .func (.func g) #[] lb] w fun e w' => e = .returned (.int .i64 (firstI p l)) ∧ Below w.heap.size w w' := by
 have HP := hide hp; clear hp
 go_enter Tryz.func182, Tryz.ntmps182
 go_wp2_with fail
 go_loopw [8] (fun i wr => ∃ k : Nat, k ≤ l.length ∧ i = .int .i64 k ∧ Below w.heap.size w wr ∧ Hid (∀ j (hj : j < l.length), j < k → p l[j] = false)) (fun i _ => l.length - (intOf i).toNat)
 case atStart => exact ⟨0, Nat.zero_le _, rfl, Below.refl _ _, fun j hj h0 => absurd h0 (by omega)⟩
 case round =>
  obtain ⟨k, hk, rfl, hbr, hs⟩ := hrel
  by_cases hlt : k < l.length
  · obtain ⟨b, off, hA, hb, x0, x1, x2, _⟩ := (h.below hbr).rack hlt
    subst hA
    have hC := HP.out k hlt wr hbr
    cases hpk : p l[k]
    · rw [hpk] at hC
      have HC := hide hC
      clear hC
      go_wp2_with (refine (HC.out).mono ?_; rintro e w1 ⟨rfl, hb1⟩)
      go_roundw
      case rel => exact ⟨k + 1, by omega, by go_num, hbr.trans (hb1.mono hbr.size), fun j hj h1 => by
       rcases Nat.lt_or_ge j k with h2 | h2
       · exact hs j hj h2
       · obtain rfl : j = k := by omega
         exact hpk⟩
      case measure => simp [intOf]; omega
    · rw [hpk] at hC
      have HC := hide hC
      have HF := hide (firstI_at hlt hpk hs)
      clear hC
      go_wp2_with (refine (HC.out).mono ?_; rintro e w1 ⟨rfl, hb1⟩)
      go_ret
      exact ⟨ret_congr (by rw [HF.out]; rfl), hbr.trans (hb1.mono hbr.size)⟩
  · have HF := hide (firstI_none fun j hj => hs j hj (by omega))
    go_wp2_with fail
    go_ret
    exact ⟨ret_congr (by rw [HF.out]; rfl), hbr⟩
theorem containsFunc_Rack (g : Nat) (lb : Array Value) (eg : ∀ args w, (callFunc g args).run Tryz.prog w = .ok (.enter g args) w) (p : RackM → Bool) (A : Option Addr) (c : Nat) (l : List RackM) (w : World)
    (hl : l.length ≤ 9223372036854775807) (h : Rows encRack 3 w w.heap.size A l) (hp : PredRack g lb l p w) :
    Calls Tryz.prog 124 #[.slice A l.length c, .func (.func g) #[] lb] w fun e w' => e = .returned (.bool (l.any p)) ∧ Below w.heap.size w w' := by
 have HC := hide (indexFunc_Rack g lb eg p A c l w hl h hp); clear hp h
 have HF := hide (firstI_any p l)
 go_enter Tryz.func124, Tryz.ntmps124
 go_wp2_with (go_at_call 182; refine HC.out.mono ?_; rintro e w1 ⟨rfl, hb1⟩)
 go_ret
 exact ⟨ret_congr (by rw [← HF.out]; rfl), hb1⟩
def PredLink (g : Nat) (lb : Array Value) (l : List LinkM) (p : LinkM → Bool) (w : World) : Prop :=
 ∀ (i : Nat) (_ : i < l.length) (W : World), Below w.heap.size w W → Calls Tryz.prog g (#[.agg #[.int .i64 l[i].a, .int .i64 l[i].b, .int .i64 l[i].cap]] ++ lb) W fun e w' => e = .returned (.bool (p l[i])) ∧ Below W.heap.size W w'
theorem indexFunc_Link (g : Nat) (lb : Array Value) (eg : ∀ args w, (callFunc g args).run Tryz.prog w = .ok (.enter g args) w) (p : LinkM → Bool) (A : Option Addr) (c : Nat) (l : List LinkM) (w : World)
    (hl : l.length ≤ 9223372036854775807) (h : Rows encLink 3 w w.heap.size A l) (hp : PredLink g lb l p w) :
    Calls Tryz.prog 183 #[.slice A l.length c, .func (.func g) #[] lb] w fun e w' => e = .returned (.int .i64 (firstI p l)) ∧ Below w.heap.size w w' := by
 have HP := hide hp; clear hp
 go_enter Tryz.func183, Tryz.ntmps183
 go_wp2_with fail
 go_loopw [8] (fun i wr => ∃ k : Nat, k ≤ l.length ∧ i = .int .i64 k ∧ Below w.heap.size w wr ∧ Hid (∀ j (hj : j < l.length), j < k → p l[j] = false)) (fun i _ => l.length - (intOf i).toNat)
 case atStart => exact ⟨0, Nat.zero_le _, rfl, Below.refl _ _, fun j hj h0 => absurd h0 (by omega)⟩
 case round =>
  obtain ⟨k, hk, rfl, hbr, hs⟩ := hrel
  by_cases hlt : k < l.length
  · obtain ⟨b, off, hA, hb, x0, x1, x2⟩ := (h.below hbr).link hlt
    subst hA
    have hC := HP.out k hlt wr hbr
    cases hpk : p l[k]
    · rw [hpk] at hC
      have HC := hide hC
      clear hC
      go_wp2_with (refine (HC.out).mono ?_; rintro e w1 ⟨rfl, hb1⟩)
      go_roundw
      case rel => exact ⟨k + 1, by omega, by go_num, hbr.trans (hb1.mono hbr.size), fun j hj h1 => by
       rcases Nat.lt_or_ge j k with h2 | h2
       · exact hs j hj h2
       · obtain rfl : j = k := by omega
         exact hpk⟩
      case measure => simp [intOf]; omega
    · rw [hpk] at hC
      have HC := hide hC
      have HF := hide (firstI_at hlt hpk hs)
      clear hC
      go_wp2_with (refine (HC.out).mono ?_; rintro e w1 ⟨rfl, hb1⟩)
      go_ret
      exact ⟨ret_congr (by rw [HF.out]; rfl), hbr.trans (hb1.mono hbr.size)⟩
  · have HF := hide (firstI_none fun j hj => hs j hj (by omega))
    go_wp2_with fail
    go_ret
    exact ⟨ret_congr (by rw [HF.out]; rfl), hbr⟩
theorem containsFunc_Link (g : Nat) (lb : Array Value) (eg : ∀ args w, (callFunc g args).run Tryz.prog w = .ok (.enter g args) w) (p : LinkM → Bool) (A : Option Addr) (c : Nat) (l : List LinkM) (w : World)
    (hl : l.length ≤ 9223372036854775807) (h : Rows encLink 3 w w.heap.size A l) (hp : PredLink g lb l p w) :
    Calls Tryz.prog 131 #[.slice A l.length c, .func (.func g) #[] lb] w fun e w' => e = .returned (.bool (l.any p)) ∧ Below w.heap.size w w' := by
 have HC := hide (indexFunc_Link g lb eg p A c l w hl h hp); clear hp h
 have HF := hide (firstI_any p l)
 go_enter Tryz.func131, Tryz.ntmps131
 go_wp2_with (go_at_call 183; refine HC.out.mono ?_; rintro e w1 ⟨rfl, hb1⟩)
 go_ret
 exact ⟨ret_congr (by rw [← HF.out]; rfl), hb1⟩
def PredItem (g : Nat) (lb : Array Value) (l : List ItemM) (p : ItemM → Bool) (w : World) : Prop :=
 ∀ (i : Nat) (_ : i < l.length) (A2 : Option Addr) (c2 : Nat) (W : World), Below w.heap.size w W → l[i].on.length ≤ c2 → c2 ≤ 9223372036854775807 → Ints W W.heap.size A2 l[i].on → Calls Tryz.prog g (#[.agg #[.string l[i].name, .int .i64 l[i].kind, .int .i64 l[i].count, .int .i64 l[i].load, .int .i64 l[i].size, .int .i64 l[i].share, .slice A2 l[i].on.length c2]] ++ lb) W fun e w' => e = .returned (.bool (p l[i])) ∧ Below W.heap.size W w'
theorem indexFunc_Item (g : Nat) (lb : Array Value) (eg : ∀ args w, (callFunc g args).run Tryz.prog w = .ok (.enter g args) w) (p : ItemM → Bool) (A : Option Addr) (c : Nat) (l : List ItemM) (w : World)
    (hl : l.length ≤ 9223372036854775807) (h : Rows encItem 7 w w.heap.size A l) (hp : PredItem g lb l p w) :
    Calls Tryz.prog 138 #[.slice A l.length c, .func (.func g) #[] lb] w fun e w' => e = .returned (.int .i64 (firstI p l)) ∧ Below w.heap.size w w' := by
 have HP := hide hp; clear hp
 go_enter Tryz.func138, Tryz.ntmps138
 go_wp2_with fail
 go_loopw [8] (fun i wr => ∃ k : Nat, k ≤ l.length ∧ i = .int .i64 k ∧ Below w.heap.size w wr ∧ Hid (∀ j (hj : j < l.length), j < k → p l[j] = false)) (fun i _ => l.length - (intOf i).toNat)
 case atStart => exact ⟨0, Nat.zero_le _, rfl, Below.refl _ _, fun j hj h0 => absurd h0 (by omega)⟩
 case round =>
  obtain ⟨k, hk, rfl, hbr, hs⟩ := hrel
  by_cases hlt : k < l.length
  · obtain ⟨b, off, A2, c2, hA, hb, x0, x1, x2, x3, x4, x5, x6, _, g1, g2, gI⟩ := (h.below hbr).item hlt
    subst hA
    have hC := HP.out k hlt A2 c2 wr hbr g1 g2 (gI.more hbr.size)
    cases hpk : p l[k]
    · rw [hpk] at hC
      have HC := hide hC
      clear hC
      go_wp2_with (refine (HC.out).mono ?_; rintro e w1 ⟨rfl, hb1⟩)
      go_roundw
      case rel => exact ⟨k + 1, by omega, by go_num, hbr.trans (hb1.mono hbr.size), fun j hj h1 => by
       rcases Nat.lt_or_ge j k with h2 | h2
       · exact hs j hj h2
       · obtain rfl : j = k := by omega
         exact hpk⟩
      case measure => simp [intOf]; omega
    · rw [hpk] at hC
      have HC := hide hC
      have HF := hide (firstI_at hlt hpk hs)
      clear hC
      go_wp2_with (refine (HC.out).mono ?_; rintro e w1 ⟨rfl, hb1⟩)
      go_ret
      exact ⟨ret_congr (by rw [HF.out]; rfl), hbr.trans (hb1.mono hbr.size)⟩
  · have HF := hide (firstI_none fun j hj => hs j hj (by omega))
    go_wp2_with fail
    go_ret
    exact ⟨ret_congr (by rw [HF.out]; rfl), hbr⟩
theorem containsFunc_Item (g : Nat) (lb : Array Value) (eg : ∀ args w, (callFunc g args).run Tryz.prog w = .ok (.enter g args) w) (p : ItemM → Bool) (A : Option Addr) (c : Nat) (l : List ItemM) (w : World)
    (hl : l.length ≤ 9223372036854775807) (h : Rows encItem 7 w w.heap.size A l) (hp : PredItem g lb l p w) :
    Calls Tryz.prog 95 #[.slice A l.length c, .func (.func g) #[] lb] w fun e w' => e = .returned (.bool (l.any p)) ∧ Below w.heap.size w w' := by
 have HC := hide (indexFunc_Item g lb eg p A c l w hl h hp); clear hp h
 have HF := hide (firstI_any p l)
 go_enter Tryz.func95, Tryz.ntmps95
 go_wp2_with (go_at_call 138; refine HC.out.mono ?_; rintro e w1 ⟨rfl, hb1⟩)
 go_ret
 exact ⟨ret_congr (by rw [← HF.out]; rfl), hb1⟩
def PredRule (g : Nat) (lb : Array Value) (l : List RuleM) (p : RuleM → Bool) (w : World) : Prop :=
 ∀ (i : Nat) (_ : i < l.length) (A2 : Option Addr) (c2 : Nat) (W : World), Below w.heap.size w W → l[i].machines.length ≤ c2 → c2 ≤ 9223372036854775807 → Ints W W.heap.size A2 l[i].machines → Calls Tryz.prog g (#[.agg #[.int .i64 l[i].kind, .int .i64 l[i].item, .int .i64 l[i].other, .int .i64 l[i].n, .int .i64 l[i].by_, .bool l[i].always, .slice A2 l[i].machines.length c2]] ++ lb) W fun e w' => e = .returned (.bool (p l[i])) ∧ Below W.heap.size W w'
theorem indexFunc_Rule (g : Nat) (lb : Array Value) (eg : ∀ args w, (callFunc g args).run Tryz.prog w = .ok (.enter g args) w) (p : RuleM → Bool) (A : Option Addr) (c : Nat) (l : List RuleM) (w : World)
    (hl : l.length ≤ 9223372036854775807) (h : Rows encRule 7 w w.heap.size A l) (hp : PredRule g lb l p w) :
    Calls Tryz.prog 143 #[.slice A l.length c, .func (.func g) #[] lb] w fun e w' => e = .returned (.int .i64 (firstI p l)) ∧ Below w.heap.size w w' := by
 have HP := hide hp; clear hp
 go_enter Tryz.func143, Tryz.ntmps143
 go_wp2_with fail
 go_loopw [8] (fun i wr => ∃ k : Nat, k ≤ l.length ∧ i = .int .i64 k ∧ Below w.heap.size w wr ∧ Hid (∀ j (hj : j < l.length), j < k → p l[j] = false)) (fun i _ => l.length - (intOf i).toNat)
 case atStart => exact ⟨0, Nat.zero_le _, rfl, Below.refl _ _, fun j hj h0 => absurd h0 (by omega)⟩
 case round =>
  obtain ⟨k, hk, rfl, hbr, hs⟩ := hrel
  by_cases hlt : k < l.length
  · obtain ⟨b, off, A2, c2, hA, hb, x0, x1, x2, x3, x4, x5, x6, g1, g2, gI⟩ := (h.below hbr).rule hlt
    subst hA
    have hC := HP.out k hlt A2 c2 wr hbr g1 g2 (gI.more hbr.size)
    cases hpk : p l[k]
    · rw [hpk] at hC
      have HC := hide hC
      clear hC
      go_wp2_with (refine (HC.out).mono ?_; rintro e w1 ⟨rfl, hb1⟩)
      go_roundw
      case rel => exact ⟨k + 1, by omega, by go_num, hbr.trans (hb1.mono hbr.size), fun j hj h1 => by
       rcases Nat.lt_or_ge j k with h2 | h2
       · exact hs j hj h2
       · obtain rfl : j = k := by omega
         exact hpk⟩
      case measure => simp [intOf]; omega
    · rw [hpk] at hC
      have HC := hide hC
      have HF := hide (firstI_at hlt hpk hs)
      clear hC
      go_wp2_with (refine (HC.out).mono ?_; rintro e w1 ⟨rfl, hb1⟩)
      go_ret
      exact ⟨ret_congr (by rw [HF.out]; rfl), hbr.trans (hb1.mono hbr.size)⟩
  · have HF := hide (firstI_none fun j hj => hs j hj (by omega))
    go_wp2_with fail
    go_ret
    exact ⟨ret_congr (by rw [HF.out]; rfl), hbr⟩
theorem containsFunc_Rule (g : Nat) (lb : Array Value) (eg : ∀ args w, (callFunc g args).run Tryz.prog w = .ok (.enter g args) w) (p : RuleM → Bool) (A : Option Addr) (c : Nat) (l : List RuleM) (w : World)
    (hl : l.length ≤ 9223372036854775807) (h : Rows encRule 7 w w.heap.size A l) (hp : PredRule g lb l p w) :
    Calls Tryz.prog 98 #[.slice A l.length c, .func (.func g) #[] lb] w fun e w' => e = .returned (.bool (l.any p)) ∧ Below w.heap.size w w' := by
 have HC := hide (indexFunc_Rule g lb eg p A c l w hl h hp); clear hp h
 have HF := hide (firstI_any p l)
 go_enter Tryz.func98, Tryz.ntmps98
 go_wp2_with (go_at_call 143; refine HC.out.mono ?_; rintro e w1 ⟨rfl, hb1⟩)
 go_ret
 exact ⟨ret_congr (by rw [← HF.out]; rfl), hb1⟩
theorem sound_Rack (g : Nat) (lb : Array Value) (eg : ∀ args w, (callFunc g args).run Tryz.prog w = .ok (.enter g args) w) (p : RackM → List RackM → Bool) (A : Option Addr) (c : Nat) (l : List RackM) (w : World)
    (hl : l.length ≤ 9223372036854775807) (hlc : l.length ≤ c) (h : Rows encRack 3 w w.heap.size A l)
    (hp : ∀ (i : Nat) (_ : i < l.length) (W : World), Below w.heap.size w W → Calls Tryz.prog g (#[.agg #[.string l[i].name, .int .i64 l[i].site, .int .i64 l[i].feed], .slice A i c] ++ lb) W fun e w' => e = .returned (.bool (p l[i] (l.take i))) ∧ Below W.heap.size W w') :
    Calls Tryz.prog 121 #[.slice A l.length c, .func (.func g) #[] lb] w fun e w' => e = .returned (.bool (soundB p l)) ∧ Below w.heap.size w w' := by
 have HP := hide hp; clear hp
 go_enter Tryz.func121, Tryz.ntmps121
 go_wp2_with fail
 go_loopw [9] (fun i wr => ∃ k : Nat, k ≤ l.length ∧ i = .int .i64 k ∧ Below w.heap.size w wr ∧ Hid (∀ j (hj : j < l.length), j < k → p l[j] (l.take j) = true)) (fun i _ => l.length - (intOf i).toNat)
 case atStart => exact ⟨0, Nat.zero_le _, rfl, Below.refl _ _, fun j hj h0 => absurd h0 (by omega)⟩
 case round =>
  obtain ⟨k, hk, rfl, hbr, hs⟩ := hrel
  by_cases hlt : k < l.length
  · obtain ⟨b, off, hA, hb, x0, x1, x2, _⟩ := (h.below hbr).rack hlt
    subst hA
    have hltI : (k : Int) < (l.length : Int) := by omega
    have hkc : (k : Int) ≤ (c : Int) := by omega
    have hb2 := hbr.alloc hbr.size (.cells #[.string l[k].name, .int .i64 l[k].site, .int .i64 l[k].feed] 104)
    have hC := fun n => HP.out k hlt (World.drewN (wr.alloc (.cells #[.string l[k].name, .int .i64 l[k].site, .int .i64 l[k].feed] 104)) n) (below_drawn hb2 n)
    cases hpk : p l[k] (l.take k)
    · have HV := hide (soundB_false (p := p) hlt hpk)
      simp only [hpk] at hC
      have HC := hide hC
      clear hC
      go_wp2_with fail
      go_region_with ((refine (HC.out 1).mono ?_; rintro e w1 ⟨rfl, hb1⟩))
      all_goals
       go_wp2_with fail
       go_ret
       exact ⟨ret_congr (by rw [HV.out]; rfl), (below_drawn hb2 1).trans (hb1.mono (below_drawn hb2 1).size)⟩
    · simp only [hpk] at hC
      have HC := hide hC
      have HK := hide hpk
      clear hC hpk
      go_wp2_with fail
      go_region_with ((refine (HC.out 1).mono ?_; rintro e w1 ⟨rfl, hb1⟩))
      all_goals
       go_wp2_with fail
       go_roundw
       case rel => exact ⟨k + 1, by omega, by go_num, (below_drawn hb2 1).trans (hb1.mono (below_drawn hb2 1).size), fun j hj h1 => by
        rcases Nat.lt_or_ge j k with h2 | h2
        · exact hs j hj h2
        · obtain rfl : j = k := by omega
          exact HK⟩
       case measure => simp [intOf]; omega
  · have HF := hide (soundB_true (p := p) fun j hj => hs j hj (by omega))
    go_wp2_with fail
    go_ret
    exact ⟨ret_congr (by rw [HF.out]; rfl), hbr⟩
theorem sound_Machine (g : Nat) (lb : Array Value) (eg : ∀ args w, (callFunc g args).run Tryz.prog w = .ok (.enter g args) w) (p : MachM → List MachM → Bool) (A : Option Addr) (c : Nat) (l : List MachM) (w : World)
    (hl : l.length ≤ 9223372036854775807) (hlc : l.length ≤ c) (h : Rows encMach 3 w w.heap.size A l)
    (hp : ∀ (i : Nat) (_ : i < l.length) (W : World), Below w.heap.size w W → Calls Tryz.prog g (#[.agg #[.string l[i].name, .int .i64 l[i].rack, .int .i64 l[i].cap], .slice A i c] ++ lb) W fun e w' => e = .returned (.bool (p l[i] (l.take i))) ∧ Below W.heap.size W w') :
    Calls Tryz.prog 125 #[.slice A l.length c, .func (.func g) #[] lb] w fun e w' => e = .returned (.bool (soundB p l)) ∧ Below w.heap.size w w' := by
 have HP := hide hp; clear hp
 go_enter Tryz.func125, Tryz.ntmps125
 go_wp2_with fail
 go_loopw [9] (fun i wr => ∃ k : Nat, k ≤ l.length ∧ i = .int .i64 k ∧ Below w.heap.size w wr ∧ Hid (∀ j (hj : j < l.length), j < k → p l[j] (l.take j) = true)) (fun i _ => l.length - (intOf i).toNat)
 case atStart => exact ⟨0, Nat.zero_le _, rfl, Below.refl _ _, fun j hj h0 => absurd h0 (by omega)⟩
 case round =>
  obtain ⟨k, hk, rfl, hbr, hs⟩ := hrel
  by_cases hlt : k < l.length
  · obtain ⟨b, off, hA, hb, x0, x1, x2, _⟩ := (h.below hbr).mach hlt
    subst hA
    have hltI : (k : Int) < (l.length : Int) := by omega
    have hkc : (k : Int) ≤ (c : Int) := by omega
    have hb2 := hbr.alloc hbr.size (.cells #[.string l[k].name, .int .i64 l[k].rack, .int .i64 l[k].cap] 106)
    have hC := fun n => HP.out k hlt (World.drewN (wr.alloc (.cells #[.string l[k].name, .int .i64 l[k].rack, .int .i64 l[k].cap] 106)) n) (below_drawn hb2 n)
    cases hpk : p l[k] (l.take k)
    · have HV := hide (soundB_false (p := p) hlt hpk)
      simp only [hpk] at hC
      have HC := hide hC
      clear hC
      go_wp2_with fail
      go_region_with ((refine (HC.out 1).mono ?_; rintro e w1 ⟨rfl, hb1⟩))
      all_goals
       go_wp2_with fail
       go_ret
       exact ⟨ret_congr (by rw [HV.out]; rfl), (below_drawn hb2 1).trans (hb1.mono (below_drawn hb2 1).size)⟩
    · simp only [hpk] at hC
      have HC := hide hC
      have HK := hide hpk
      clear hC hpk
      go_wp2_with fail
      go_region_with ((refine (HC.out 1).mono ?_; rintro e w1 ⟨rfl, hb1⟩))
      all_goals
       go_wp2_with fail
       go_roundw
       case rel => exact ⟨k + 1, by omega, by go_num, (below_drawn hb2 1).trans (hb1.mono (below_drawn hb2 1).size), fun j hj h1 => by
        rcases Nat.lt_or_ge j k with h2 | h2
        · exact hs j hj h2
        · obtain rfl : j = k := by omega
          exact HK⟩
       case measure => simp [intOf]; omega
  · have HF := hide (soundB_true (p := p) fun j hj => hs j hj (by omega))
    go_wp2_with fail
    go_ret
    exact ⟨ret_congr (by rw [HF.out]; rfl), hbr⟩
theorem sound_Link (g : Nat) (lb : Array Value) (eg : ∀ args w, (callFunc g args).run Tryz.prog w = .ok (.enter g args) w) (p : LinkM → List LinkM → Bool) (A : Option Addr) (c : Nat) (l : List LinkM) (w : World)
    (hl : l.length ≤ 9223372036854775807) (hlc : l.length ≤ c) (h : Rows encLink 3 w w.heap.size A l)
    (hp : ∀ (i : Nat) (_ : i < l.length) (W : World), Below w.heap.size w W → Calls Tryz.prog g (#[.agg #[.int .i64 l[i].a, .int .i64 l[i].b, .int .i64 l[i].cap], .slice A i c] ++ lb) W fun e w' => e = .returned (.bool (p l[i] (l.take i))) ∧ Below W.heap.size W w') :
    Calls Tryz.prog 128 #[.slice A l.length c, .func (.func g) #[] lb] w fun e w' => e = .returned (.bool (soundB p l)) ∧ Below w.heap.size w w' := by
 have HP := hide hp; clear hp
 go_enter Tryz.func128, Tryz.ntmps128
 go_wp2_with fail
 go_loopw [9] (fun i wr => ∃ k : Nat, k ≤ l.length ∧ i = .int .i64 k ∧ Below w.heap.size w wr ∧ Hid (∀ j (hj : j < l.length), j < k → p l[j] (l.take j) = true)) (fun i _ => l.length - (intOf i).toNat)
 case atStart => exact ⟨0, Nat.zero_le _, rfl, Below.refl _ _, fun j hj h0 => absurd h0 (by omega)⟩
 case round =>
  obtain ⟨k, hk, rfl, hbr, hs⟩ := hrel
  by_cases hlt : k < l.length
  · obtain ⟨b, off, hA, hb, x0, x1, x2⟩ := (h.below hbr).link hlt
    subst hA
    have hltI : (k : Int) < (l.length : Int) := by omega
    have hkc : (k : Int) ≤ (c : Int) := by omega
    have hb2 := hbr.alloc hbr.size (.cells #[.int .i64 l[k].a, .int .i64 l[k].b, .int .i64 l[k].cap] 123)
    have hC := fun n => HP.out k hlt (World.drewN (wr.alloc (.cells #[.int .i64 l[k].a, .int .i64 l[k].b, .int .i64 l[k].cap] 123)) n) (below_drawn hb2 n)
    cases hpk : p l[k] (l.take k)
    · have HV := hide (soundB_false (p := p) hlt hpk)
      simp only [hpk] at hC
      have HC := hide hC
      clear hC
      go_wp2_with fail
      go_region_with ((refine (HC.out 1).mono ?_; rintro e w1 ⟨rfl, hb1⟩))
      all_goals
       go_wp2_with fail
       go_ret
       exact ⟨ret_congr (by rw [HV.out]; rfl), (below_drawn hb2 1).trans (hb1.mono (below_drawn hb2 1).size)⟩
    · simp only [hpk] at hC
      have HC := hide hC
      have HK := hide hpk
      clear hC hpk
      go_wp2_with fail
      go_region_with ((refine (HC.out 1).mono ?_; rintro e w1 ⟨rfl, hb1⟩))
      all_goals
       go_wp2_with fail
       go_roundw
       case rel => exact ⟨k + 1, by omega, by go_num, (below_drawn hb2 1).trans (hb1.mono (below_drawn hb2 1).size), fun j hj h1 => by
        rcases Nat.lt_or_ge j k with h2 | h2
        · exact hs j hj h2
        · obtain rfl : j = k := by omega
          exact HK⟩
       case measure => simp [intOf]; omega
  · have HF := hide (soundB_true (p := p) fun j hj => hs j hj (by omega))
    go_wp2_with fail
    go_ret
    exact ⟨ret_congr (by rw [HF.out]; rfl), hbr⟩
end Go.Proofs.YtlnjaemdelnceaaGreatDoor
