/- A part of the claim: see its last text. -/
import Derived.Test.YtcfogipaadhbeaaGreatDoorUK02
import Derived.Test.YtcfogipaadhbeaaGreatDoorUK01
import Derived.Deep.RegionHeld3

set_option maxRecDepth 100000
set_option maxHeartbeats 16000000
namespace Go.Proofs.YtcfogipaadhbeaaGreatDoor
open Go Go.RowKit Go.Proofs
def PredRack (g : Nat) (lb : Array Value) (l : List RackM) (p : RackM → Bool) (w : World) : Prop :=
 ∀ (i : Nat) (_ : i < l.length) (W : World), Below w.heap.size w W → Calls Tryz.prog g (#[.agg #[.string l[i].name, .int .i64 l[i].site, .int .i64 l[i].feed]] ++ lb) W fun e w' => e = .returned (.bool (p l[i])) ∧ Below W.heap.size W w'
theorem indexFunc_Rack (g : Nat) (lb : Array Value) (eg : ∀ args w, (callFunc g args).run Tryz.prog w = .ok (.enter g args) w) (p : RackM → Bool) (A : Option Addr) (c : Nat) (l : List RackM) (w : World)
    (hl : l.length ≤ 9223372036854775807) (h : Rows encRack 3 w w.heap.size A l) (hp : PredRack g lb l p w) :
    Calls Tryz.prog 167 #[.slice A l.length c, .func (.func g) #[] lb] w fun e w' => e = .returned (.int .i64 (firstI p l)) ∧ Below w.heap.size w w' := by
 have HP := hide hp; clear hp
 go_enter Tryz.func167, Tryz.ntmps167
 go_wp2_with fail
 go_loopw [8] (fun i wr => ∃ k : Nat, k ≤ l.length ∧ i = .int .i64 k ∧ Below w.heap.size w wr ∧ Hid (∀ j (hj : j < l.length), j < k → p l[j] = false)) (fun i _ => l.length - (intOf i).toNat)
 case atStart => exact ⟨0, Nat.zero_le _, rfl, Below.refl _ _, fun j hj h0 => absurd h0 (by omega)⟩
 case round =>
  obtain ⟨k, hk, rfl, hbr, hs⟩ := hrel
  by_cases hlt : k < l.length
  · obtain ⟨b, off, hA, hb, x0, x1, x2, _⟩ := (h.below hbr).rack hlt
    subst hA
    have hC := HP.out k hlt wr hbr
    cases hpk : p l[k]
    · rw [hpk] at hC
      have HC := hide hC
      clear hC
      go_wp2_with (refine (HC.out).mono ?_; rintro e w1 ⟨rfl, hb1⟩)
      go_roundw
      case rel => exact ⟨k + 1, by omega, by go_num, hbr.trans (hb1.mono hbr.size), fun j hj h1 => by
       rcases Nat.lt_or_ge j k with h2 | h2
       · exact hs j hj h2
       · obtain rfl : j = k := by omega
         exact hpk⟩
      case measure => simp [intOf]; omega
    · rw [hpk] at hC
      have HC := hide hC
      have HF := hide (firstI_at hlt hpk hs)
      clear hC
      go_wp2_with (refine (HC.out).mono ?_; rintro e w1 ⟨rfl, hb1⟩)
      go_ret
      exact ⟨ret_congr (by rw [HF.out]; rfl), hbr.trans (hb1.mono hbr.size)⟩
  · have HF := hide (firstI_none fun j hj => hs j hj (by omega))
    go_wp2_with fail
    go_ret
    exact ⟨ret_congr (by rw [HF.out]; rfl), hbr⟩
theorem containsFunc_Rack (g : Nat) (lb : Array Value) (eg : ∀ args w, (callFunc g args).run Tryz.prog w = .ok (.enter g args) w) (p : RackM → Bool) (A : Option Addr) (c : Nat) (l : List RackM) (w : World)
    (hl : l.length ≤ 9223372036854775807) (h : Rows encRack 3 w w.heap.size A l) (hp : PredRack g lb l p w) :
    Calls Tryz.prog 113 #[.slice A l.length c, .func (.func g) #[] lb] w fun e w' => e = .returned (.bool (l.any p)) ∧ Below w.heap.size w w' := by
 have HC := hide (indexFunc_Rack g lb eg p A c l w hl h hp); clear hp h
 have HF := hide (firstI_any p l)
 go_enter Tryz.func113, Tryz.ntmps113
 go_wp2_with (go_at_call 167; refine HC.out.mono ?_; rintro e w1 ⟨rfl, hb1⟩)
 go_ret
 exact ⟨ret_congr (by rw [← HF.out]; rfl), hb1⟩
def PredLink (g : Nat) (lb : Array Value) (l : List LinkM) (p : LinkM → Bool) (w : World) : Prop :=
 ∀ (i : Nat) (_ : i < l.length) (W : World), Below w.heap.size w W → Calls Tryz.prog g (#[.agg #[.int .i64 l[i].a, .int .i64 l[i].b, .int .i64 l[i].cap]] ++ lb) W fun e w' => e = .returned (.bool (p l[i])) ∧ Below W.heap.size W w'
theorem indexFunc_Link (g : Nat) (lb : Array Value) (eg : ∀ args w, (callFunc g args).run Tryz.prog w = .ok (.enter g args) w) (p : LinkM → Bool) (A : Option Addr) (c : Nat) (l : List LinkM) (w : World)
    (hl : l.length ≤ 9223372036854775807) (h : Rows encLink 3 w w.heap.size A l) (hp : PredLink g lb l p w) :
    Calls Tryz.prog 168 #[.slice A l.length c, .func (.func g) #[] lb] w fun e w' => e = .returned (.int .i64 (firstI p l)) ∧ Below w.heap.size w w' := by
 have HP := hide hp; clear hp
 go_enter Tryz.func168, Tryz.ntmps168
 go_wp2_with fail
 go_loopw [8] (fun i wr => ∃ k : Nat, k ≤ l.length ∧ i = .int .i64 k ∧ Below w.heap.size w wr ∧ Hid (∀ j (hj : j < l.length), j < k → p l[j] = false)) (fun i _ => l.length - (intOf i).toNat)
 case atStart => exact ⟨0, Nat.zero_le _, rfl, Below.refl _ _, fun j hj h0 => absurd h0 (by omega)⟩
 case round =>
  obtain ⟨k, hk, rfl, hbr, hs⟩ := hrel
  by_cases hlt : k < l.length
  · obtain ⟨b, off, hA, hb, x0, x1, x2⟩ := (h.below hbr).link hlt
    subst hA
    have hC := HP.out k hlt wr hbr
    cases hpk : p l[k]
    · rw [hpk] at hC
      have HC := hide hC
      clear hC
      go_wp2_with (refine (HC.out).mono ?_; rintro e w1 ⟨rfl, hb1⟩)
      go_roundw
      case rel => exact ⟨k + 1, by omega, by go_num, hbr.trans (hb1.mono hbr.size), fun j hj h1 => by
       rcases Nat.lt_or_ge j k with h2 | h2
       · exact hs j hj h2
       · obtain rfl : j = k := by omega
         exact hpk⟩
      case measure => simp [intOf]; omega
    · rw [hpk] at hC
      have HC := hide hC
      have HF := hide (firstI_at hlt hpk hs)
      clear hC
      go_wp2_with (refine (HC.out).mono ?_; rintro e w1 ⟨rfl, hb1⟩)
      go_ret
      exact ⟨ret_congr (by rw [HF.out]; rfl), hbr.trans (hb1.mono hbr.size)⟩
  · have HF := hide (firstI_none fun j hj => hs j hj (by omega))
    go_wp2_with fail
    go_ret
    exact ⟨ret_congr (by rw [HF.out]; rfl), hbr⟩
theorem containsFunc_Link (g : Nat) (lb : Array Value) (eg : ∀ args w, (callFunc g args).run Tryz.prog w = .ok (.enter g args) w) (p : LinkM → Bool) (A : Option Addr) (c : Nat) (l : List LinkM) (w : World)
    (hl : l.length ≤ 9223372036854775807) (h : Rows encLink 3 w w.heap.size A l) (hp : PredLink g lb l p w) :
    Calls Tryz.prog 120 #[.slice A l.length c, .func (.func g) #[] lb] w fun e w' => e = .returned (.bool (l.any p)) ∧ Below w.heap.size w w' := by
 have HC := hide (indexFunc_Link g lb eg p A c l w hl h hp); clear hp h
 have HF := hide (firstI_any p l)
 go_enter Tryz.func120, Tryz.ntmps120
 go_wp2_with (go_at_call 168; refine HC.out.mono ?_; rintro e w1 ⟨rfl, hb1⟩)
 go_ret
 exact ⟨ret_congr (by rw [← HF.out]; rfl), hb1⟩
def PredItem (g : Nat) (lb : Array Value) (l : List ItemM) (p : ItemM → Bool) (w : World) : Prop :=
 ∀ (i : Nat) (_ : i < l.length) (A2 : Option Addr) (c2 : Nat) (W : World), Below w.heap.size w W → l[i].on.length ≤ c2 → c2 ≤ 9223372036854775807 → Ints W W.heap.size A2 l[i].on → Calls Tryz.prog g (#[.agg #[.string l[i].name, .int .i64 l[i].kind, .int .i64 l[i].count, .int .i64 l[i].load, .int .i64 l[i].size, .int .i64 l[i].share, .slice A2 l[i].on.length c2]] ++ lb) W fun e w' => e = .returned (.bool (p l[i])) ∧ Below W.heap.size W w'
theorem indexFunc_Item (g : Nat) (lb : Array Value) (eg : ∀ args w, (callFunc g args).run Tryz.prog w = .ok (.enter g args) w) (p : ItemM → Bool) (A : Option Addr) (c : Nat) (l : List ItemM) (w : World)
    (hl : l.length ≤ 9223372036854775807) (h : Rows encItem 7 w w.heap.size A l) (hp : PredItem g lb l p w) :
    Calls Tryz.prog 127 #[.slice A l.length c, .func (.func g) #[] lb] w fun e w' => e = .returned (.int .i64 (firstI p l)) ∧ Below w.heap.size w w' := by
 have HP := hide hp; clear hp
 go_enter Tryz.func127, Tryz.ntmps127
 go_wp2_with fail
 go_loopw [8] (fun i wr => ∃ k : Nat, k ≤ l.length ∧ i = .int .i64 k ∧ Below w.heap.size w wr ∧ Hid (∀ j (hj : j < l.length), j < k → p l[j] = false)) (fun i _ => l.length - (intOf i).toNat)
 case atStart => exact ⟨0, Nat.zero_le _, rfl, Below.refl _ _, fun j hj h0 => absurd h0 (by omega)⟩
 case round =>
  obtain ⟨k, hk, rfl, hbr, hs⟩ := hrel
  by_cases hlt : k < l.length
  · obtain ⟨b, off, A2, c2, hA, hb, x0, x1, x2, x3, x4, x5, x6, _, g1, g2, gI⟩ := (h.below hbr).item hlt
    subst hA
    have hC := HP.out k hlt A2 c2 wr hbr g1 g2 (gI.more hbr.size)
    cases hpk : p l[k]
    · rw [hpk] at hC
      have HC := hide hC
      clear hC
      go_wp2_with (refine (HC.out).mono ?_; rintro e w1 ⟨rfl, hb1⟩)
      go_roundw
      case rel => exact ⟨k + 1, by omega, by go_num, hbr.trans (hb1.mono hbr.size), fun j hj h1 => by
       rcases Nat.lt_or_ge j k with h2 | h2
       · exact hs j hj h2
       · obtain rfl : j = k := by omega
         exact hpk⟩
      case measure => simp [intOf]; omega
    · rw [hpk] at hC
      have HC := hide hC
      have HF := hide (firstI_at hlt hpk hs)
      clear hC
      go_wp2_with (refine (HC.out).mono ?_; rintro e w1 ⟨rfl, hb1⟩)
      go_ret
      exact ⟨ret_congr (by rw [HF.out]; rfl), hbr.trans (hb1.mono hbr.size)⟩
  · have HF := hide (firstI_none fun j hj => hs j hj (by omega))
    go_wp2_with fail
    go_ret
    exact ⟨ret_congr (by rw [HF.out]; rfl), hbr⟩
theorem containsFunc_Item (g : Nat) (lb : Array Value) (eg : ∀ args w, (callFunc g args).run Tryz.prog w = .ok (.enter g args) w) (p : ItemM → Bool) (A : Option Addr) (c : Nat) (l : List ItemM) (w : World)
    (hl : l.length ≤ 9223372036854775807) (h : Rows encItem 7 w w.heap.size A l) (hp : PredItem g lb l p w) :
    Calls Tryz.prog 72 #[.slice A l.length c, .func (.func g) #[] lb] w fun e w' => e = .returned (.bool (l.any p)) ∧ Below w.heap.size w w' := by
 have HC := hide (indexFunc_Item g lb eg p A c l w hl h hp); clear hp h
 have HF := hide (firstI_any p l)
 go_enter Tryz.func72, Tryz.ntmps72
 go_wp2_with (go_at_call 127; refine HC.out.mono ?_; rintro e w1 ⟨rfl, hb1⟩)
 go_ret
 exact ⟨ret_congr (by rw [← HF.out]; rfl), hb1⟩
def PredRule (g : Nat) (lb : Array Value) (l : List RuleM) (p : RuleM → Bool) (w : World) : Prop :=
 ∀ (i : Nat) (_ : i < l.length) (A2 : Option Addr) (c2 : Nat) (W : World), Below w.heap.size w W → l[i].machines.length ≤ c2 → c2 ≤ 9223372036854775807 → Ints W W.heap.size A2 l[i].machines → Calls Tryz.prog g (#[.agg #[.int .i64 l[i].kind, .int .i64 l[i].item, .int .i64 l[i].other, .int .i64 l[i].n, .int .i64 l[i].by_, .bool l[i].always, .slice A2 l[i].machines.length c2]] ++ lb) W fun e w' => e = .returned (.bool (p l[i])) ∧ Below W.heap.size W w'
theorem indexFunc_Rule (g : Nat) (lb : Array Value) (eg : ∀ args w, (callFunc g args).run Tryz.prog w = .ok (.enter g args) w) (p : RuleM → Bool) (A : Option Addr) (c : Nat) (l : List RuleM) (w : World)
    (hl : l.length ≤ 9223372036854775807) (h : Rows encRule 7 w w.heap.size A l) (hp : PredRule g lb l p w) :
    Calls Tryz.prog 132 #[.slice A l.length c, .func (.func g) #[] lb] w fun e w' => e = .returned (.int .i64 (firstI p l)) ∧ Below w.heap.size w w' := by
 have HP := hide hp; clear hp
 go_enter Tryz.func132, Tryz.ntmps132
 go_wp2_with fail
 go_loopw [8] (fun i wr => ∃ k : Nat, k ≤ l.length ∧ i = .int .i64 k ∧ Below w.heap.size w wr ∧ Hid (∀ j (hj : j < l.length), j < k → p l[j] = false)) (fun i _ => l.length - (intOf i).toNat)
 case atStart => exact ⟨0, Nat.zero_le _, rfl, Below.refl _ _, fun j hj h0 => absurd h0 (by omega)⟩
 case round =>
  obtain ⟨k, hk, rfl, hbr, hs⟩ := hrel
  by_cases hlt : k < l.length
  · obtain ⟨b, off, A2, c2, hA, hb, x0, x1, x2, x3, x4, x5, x6, g1, g2, gI⟩ := (h.below hbr).rule hlt
    subst hA
    have hC := HP.out k hlt A2 c2 wr hbr g1 g2 (gI.more hbr.size)
    cases hpk : p l[k]
    · rw [hpk] at hC
      have HC := hide hC
      clear hC
      go_wp2_with (refine (HC.out).mono ?_; rintro e w1 ⟨rfl, hb1⟩)
      go_roundw
      case rel => exact ⟨k + 1, by omega, by go_num, hbr.trans (hb1.mono hbr.size), fun j hj h1 => by
       rcases Nat.lt_or_ge j k with h2 | h2
       · exact hs j hj h2
       · obtain rfl : j = k := by omega
         exact hpk⟩
      case measure => simp [intOf]; omega
    · rw [hpk] at hC
      have HC := hide hC
      have HF := hide (firstI_at hlt hpk hs)
      clear hC
      go_wp2_with (refine (HC.out).mono ?_; rintro e w1 ⟨rfl, hb1⟩)
      go_ret
      exact ⟨ret_congr (by rw [HF.out]; rfl), hbr.trans (hb1.mono hbr.size)⟩
  · have HF := hide (firstI_none fun j hj => hs j hj (by omega))
    go_wp2_with fail
    go_ret
    exact ⟨ret_congr (by rw [HF.out]; rfl), hbr⟩
theorem containsFunc_Rule (g : Nat) (lb : Array Value) (eg : ∀ args w, (callFunc g args).run Tryz.prog w = .ok (.enter g args) w) (p : RuleM → Bool) (A : Option Addr) (c : Nat) (l : List RuleM) (w : World)
    (hl : l.length ≤ 9223372036854775807) (h : Rows encRule 7 w w.heap.size A l) (hp : PredRule g lb l p w) :
    Calls Tryz.prog 75 #[.slice A l.length c, .func (.func g) #[] lb] w fun e w' => e = .returned (.bool (l.any p)) ∧ Below w.heap.size w w' := by
 have HC := hide (indexFunc_Rule g lb eg p A c l w hl h hp); clear hp h
 have HF := hide (firstI_any p l)
 go_enter Tryz.func75, Tryz.ntmps75
 go_wp2_with (go_at_call 132; refine HC.out.mono ?_; rintro e w1 ⟨rfl, hb1⟩)
 go_ret
 exact ⟨ret_congr (by rw [← HF.out]; rfl), hb1⟩
theorem sound_Rack (g : Nat) (lb : Array Value) (eg : ∀ args w, (callFunc g args).run Tryz.prog w = .ok (.enter g args) w) (p : RackM → List RackM → Bool) (A : Option Addr) (c : Nat) (l : List RackM) (w : World)
    (hl : l.length ≤ 9223372036854775807) (hlc : l.length ≤ c) (h : Rows encRack 3 w w.heap.size A l)
    (hp : ∀ (i : Nat) (_ : i < l.length) (W : World), Below w.heap.size w W → Calls Tryz.prog g (#[.agg #[.string l[i].name, .int .i64 l[i].site, .int .i64 l[i].feed], .slice A i c] ++ lb) W fun e w' => e = .returned (.bool (p l[i] (l.take i))) ∧ Below W.heap.size W w') :
    Calls Tryz.prog 110 #[.slice A l.length c, .func (.func g) #[] lb] w fun e w' => e = .returned (.bool (soundB p l)) ∧ Below w.heap.size w w' := by
 have HP := hide hp; clear hp
 go_enter Tryz.func110, Tryz.ntmps110
 go_wp2_with fail
 go_loopw [9] (fun i wr => ∃ k : Nat, k ≤ l.length ∧ i = .int .i64 k ∧ Below w.heap.size w wr ∧ Hid (∀ j (hj : j < l.length), j < k → p l[j] (l.take j) = true)) (fun i _ => l.length - (intOf i).toNat)
 case atStart => exact ⟨0, Nat.zero_le _, rfl, Below.refl _ _, fun j hj h0 => absurd h0 (by omega)⟩
 case round =>
  obtain ⟨k, hk, rfl, hbr, hs⟩ := hrel
  by_cases hlt : k < l.length
  · obtain ⟨b, off, hA, hb, x0, x1, x2, _⟩ := (h.below hbr).rack hlt
    subst hA
    have hltI : (k : Int) < (l.length : Int) := by omega
    have hkc : (k : Int) ≤ (c : Int) := by omega
    have hb2 := hbr.alloc hbr.size (.cells #[.string l[k].name, .int .i64 l[k].site, .int .i64 l[k].feed] 69)
    have hC := fun n => HP.out k hlt (World.drewN (wr.alloc (.cells #[.string l[k].name, .int .i64 l[k].site, .int .i64 l[k].feed] 69)) n) (below_drawn hb2 n)
    cases hpk : p l[k] (l.take k)
    · have HV := hide (soundB_false (p := p) hlt hpk)
      simp only [hpk] at hC
      have HC := hide hC
      clear hC
      go_wp2_with fail
      go_region_with ((refine (HC.out 1).mono ?_; rintro e w1 ⟨rfl, hb1⟩))
      all_goals
       go_wp2_with fail
       go_ret
       exact ⟨ret_congr (by rw [HV.out]; rfl), (below_drawn hb2 1).trans (hb1.mono (below_drawn hb2 1).size)⟩
    · simp only [hpk] at hC
      have HC := hide hC
      have HK := hide hpk
      clear hC hpk
      go_wp2_with fail
      go_region_with ((refine (HC.out 1).mono ?_; rintro e w1 ⟨rfl, hb1⟩))
      all_goals
       go_wp2_with fail
       go_roundw
       case rel => exact ⟨k + 1, by omega, by go_num, (below_drawn hb2 1).trans (hb1.mono (below_drawn hb2 1).size), fun j hj h1 => by
        rcases Nat.lt_or_ge j k with h2 | h2
        · exact hs j hj h2
        · obtain rfl : j = k := by omega
          exact HK⟩
       case measure => simp [intOf]; omega
  · have HF := hide (soundB_true (p := p) fun j hj => hs j hj (by omega))
    go_wp2_with fail
    go_ret
    exact ⟨ret_congr (by rw [HF.out]; rfl), hbr⟩
theorem sound_Machine (g : Nat) (lb : Array Value) (eg : ∀ args w, (callFunc g args).run Tryz.prog w = .ok (.enter g args) w) (p : MachM → List MachM → Bool) (A : Option Addr) (c : Nat) (l : List MachM) (w : World)
    (hl : l.length ≤ 9223372036854775807) (hlc : l.length ≤ c) (h : Rows encMach 3 w w.heap.size A l)
    (hp : ∀ (i : Nat) (_ : i < l.length) (W : World), Below w.heap.size w W → Calls Tryz.prog g (#[.agg #[.string l[i].name, .int .i64 l[i].rack, .int .i64 l[i].cap], .slice A i c] ++ lb) W fun e w' => e = .returned (.bool (p l[i] (l.take i))) ∧ Below W.heap.size W w') :
    Calls Tryz.prog 114 #[.slice A l.length c, .func (.func g) #[] lb] w fun e w' => e = .returned (.bool (soundB p l)) ∧ Below w.heap.size w w' := by
 have HP := hide hp; clear hp
 go_enter Tryz.func114, Tryz.ntmps114
 go_wp2_with fail
 go_loopw [9] (fun i wr => ∃ k : Nat, k ≤ l.length ∧ i = .int .i64 k ∧ Below w.heap.size w wr ∧ Hid (∀ j (hj : j < l.length), j < k → p l[j] (l.take j) = true)) (fun i _ => l.length - (intOf i).toNat)
 case atStart => exact ⟨0, Nat.zero_le _, rfl, Below.refl _ _, fun j hj h0 => absurd h0 (by omega)⟩
 case round =>
  obtain ⟨k, hk, rfl, hbr, hs⟩ := hrel
  by_cases hlt : k < l.length
  · obtain ⟨b, off, hA, hb, x0, x1, x2, _⟩ := (h.below hbr).mach hlt
    subst hA
    have hltI : (k : Int) < (l.length : Int) := by omega
    have hkc : (k : Int) ≤ (c : Int) := by omega
    have hb2 := hbr.alloc hbr.size (.cells #[.string l[k].name, .int .i64 l[k].rack, .int .i64 l[k].cap] 71)
    have hC := fun n => HP.out k hlt (World.drewN (wr.alloc (.cells #[.string l[k].name, .int .i64 l[k].rack, .int .i64 l[k].cap] 71)) n) (below_drawn hb2 n)
    cases hpk : p l[k] (l.take k)
    · have HV := hide (soundB_false (p := p) hlt hpk)
      simp only [hpk] at hC
      have HC := hide hC
      clear hC
      go_wp2_with fail
      go_region_with ((refine (HC.out 1).mono ?_; rintro e w1 ⟨rfl, hb1⟩))
      all_goals
       go_wp2_with fail
       go_ret
       exact ⟨ret_congr (by rw [HV.out]; rfl), (below_drawn hb2 1).trans (hb1.mono (below_drawn hb2 1).size)⟩
    · simp only [hpk] at hC
      have HC := hide hC
      have HK := hide hpk
      clear hC hpk
      go_wp2_with fail
      go_region_with ((refine (HC.out 1).mono ?_; rintro e w1 ⟨rfl, hb1⟩))
      all_goals
       go_wp2_with fail
       go_roundw
       case rel => exact ⟨k + 1, by omega, by go_num, (below_drawn hb2 1).trans (hb1.mono (below_drawn hb2 1).size), fun j hj h1 => by
        rcases Nat.lt_or_ge j k with h2 | h2
        · exact hs j hj h2
        · obtain rfl : j = k := by omega
          exact HK⟩
       case measure => simp [intOf]; omega
  · have HF := hide (soundB_true (p := p) fun j hj => hs j hj (by omega))
    go_wp2_with fail
    go_ret
    exact ⟨ret_congr (by rw [HF.out]; rfl), hbr⟩
theorem sound_Link (g : Nat) (lb : Array Value) (eg : ∀ args w, (callFunc g args).run Tryz.prog w = .ok (.enter g args) w) (p : LinkM → List LinkM → Bool) (A : Option Addr) (c : Nat) (l : List LinkM) (w : World)
    (hl : l.length ≤ 9223372036854775807) (hlc : l.length ≤ c) (h : Rows encLink 3 w w.heap.size A l)
    (hp : ∀ (i : Nat) (_ : i < l.length) (W : World), Below w.heap.size w W → Calls Tryz.prog g (#[.agg #[.int .i64 l[i].a, .int .i64 l[i].b, .int .i64 l[i].cap], .slice A i c] ++ lb) W fun e w' => e = .returned (.bool (p l[i] (l.take i))) ∧ Below W.heap.size W w') :
    Calls Tryz.prog 117 #[.slice A l.length c, .func (.func g) #[] lb] w fun e w' => e = .returned (.bool (soundB p l)) ∧ Below w.heap.size w w' := by
 have HP := hide hp; clear hp
 go_enter Tryz.func117, Tryz.ntmps117
 go_wp2_with fail
 go_loopw [9] (fun i wr => ∃ k : Nat, k ≤ l.length ∧ i = .int .i64 k ∧ Below w.heap.size w wr ∧ Hid (∀ j (hj : j < l.length), j < k → p l[j] (l.take j) = true)) (fun i _ => l.length - (intOf i).toNat)
 case atStart => exact ⟨0, Nat.zero_le _, rfl, Below.refl _ _, fun j hj h0 => absurd h0 (by omega)⟩
 case round =>
  obtain ⟨k, hk, rfl, hbr, hs⟩ := hrel
  by_cases hlt : k < l.length
  · obtain ⟨b, off, hA, hb, x0, x1, x2⟩ := (h.below hbr).link hlt
    subst hA
    have hltI : (k : Int) < (l.length : Int) := by omega
    have hkc : (k : Int) ≤ (c : Int) := by omega
    have hb2 := hbr.alloc hbr.size (.cells #[.int .i64 l[k].a, .int .i64 l[k].b, .int .i64 l[k].cap] 73)
    have hC := fun n => HP.out k hlt (World.drewN (wr.alloc (.cells #[.int .i64 l[k].a, .int .i64 l[k].b, .int .i64 l[k].cap] 73)) n) (below_drawn hb2 n)
    cases hpk : p l[k] (l.take k)
    · have HV := hide (soundB_false (p := p) hlt hpk)
      simp only [hpk] at hC
      have HC := hide hC
      clear hC
      go_wp2_with fail
      go_region_with ((refine (HC.out 1).mono ?_; rintro e w1 ⟨rfl, hb1⟩))
      all_goals
       go_wp2_with fail
       go_ret
       exact ⟨ret_congr (by rw [HV.out]; rfl), (below_drawn hb2 1).trans (hb1.mono (below_drawn hb2 1).size)⟩
    · simp only [hpk] at hC
      have HC := hide hC
      have HK := hide hpk
      clear hC hpk
      go_wp2_with fail
      go_region_with ((refine (HC.out 1).mono ?_; rintro e w1 ⟨rfl, hb1⟩))
      all_goals
       go_wp2_with fail
       go_roundw
       case rel => exact ⟨k + 1, by omega, by go_num, (below_drawn hb2 1).trans (hb1.mono (below_drawn hb2 1).size), fun j hj h1 => by
        rcases Nat.lt_or_ge j k with h2 | h2
        · exact hs j hj h2
        · obtain rfl : j = k := by omega
          exact HK⟩
       case measure => simp [intOf]; omega
  · have HF := hide (soundB_true (p := p) fun j hj => hs j hj (by omega))
    go_wp2_with fail
    go_ret
    exact ⟨ret_congr (by rw [HF.out]; rfl), hbr⟩
end Go.Proofs.YtcfogipaadhbeaaGreatDoor
