/- A part of the claim: see its last text. -/
import Derived.Test.YtcfogipaadhbeaaGreatDoorUK37
import Derived.Test.YtcfogipaadhbeaaGreatDoorUK01
import Derived.Test.YtcfogipaadhbeaaGreatDoorUK02
import Derived.Deep.RegionHeld3
import Derived.Deep.DeepCutAuto
import Derived.BigQuiet
import Derived.Lib.AppendIntMem
import Derived.IntWalk
import Derived.Test.YtcfogipaadhbeaaGreatDoorUK34
import Derived.Test.YtcfogipaadhbeaaGreatDoorUK16

set_option maxRecDepth 100000
set_option maxHeartbeats 16000000
namespace Go.Proofs.YtcfogipaadhbeaaGreatDoor
open Go Go.RowKit Go.Proofs
theorem decls_validD {m : Mod} (hv : validM m = true) {d : Decl} (hd : d ∈ declsM m) : validD d = true := valid_part hv (decls_mem hv hd)
theorem decls_few {m : Mod} (hv : validM m = true) : (declsM m).length ≤ 200 := by
 simp only [validM, siteB, exI, Bool.and_eq_true, decide_eq_true_eq] at hv
 have hf : (failD m).length ≤ 1 := by unfold failD; split <;> simp
 simp only [declsM, dec7, dec6, dec5, dec4, dec3, dec2, dec1, List.length_append, List.length_map, List.length_singleton]
 omega
end Go.Proofs.YtcfogipaadhbeaaGreatDoor

namespace Go.Proofs.YtcfogipaadhbeaaGreatDoor
open Go Go.RowKit Go.Proofs
end Go.Proofs.YtcfogipaadhbeaaGreatDoor

namespace Go.Proofs.YtcfogipaadhbeaaGreatDoor
open Go Go.RowKit Go.Proofs
end Go.Proofs.YtcfogipaadhbeaaGreatDoor

namespace Go.Proofs.YtcfogipaadhbeaaGreatDoor
open Go Go.RowKit Go.Proofs
def smallS (s : ByteArray) : Bool := decide (s.size ≤ 100)
def fewD (d : Decl) : Bool := decide (d.name.size ≤ 100) && decide (d.refs.length ≤ 30) && decide (d.nums.length ≤ 30) && d.refs.all smallS
def fewB (l : List Decl) : Bool := l.all fewD && decide (l.length ≤ 120)
theorem fewB_no {l : List Decl} {k : Nat} (hk : k < l.length) (h : fewD l[k] = false) : fewB l = false := by
 unfold fewB; rw [all_false_at hk h]; rfl
theorem fewB_end {l : List Decl} (h : l.all fewD = true) : fewB l = decide ((l.length : Int) ≤ 120) := by
 unfold fewB; rw [h, Bool.true_and, Bool.eq_iff_iff]; simp; omega
theorem few_ref (A : Option Addr) (c : Nat) (l : List Decl) (w : World) (h : Decls w w.heap.size A l) (hl : l.length ≤ 9223372036854775807) :
    Calls Tryz.prog 10 #[.slice A l.length c] w fun e w' => e = .returned (.bool (fewB l)) ∧ w = w' := by
 go_enter Tryz.func10, Tryz.ntmps10
 go_wp2_with fail
 go_loop [3, 4] (fun i _ => ∃ k : Nat, k ≤ l.length ∧ i = .int .i64 k ∧ Hid (∀ j (q : j < l.length), j < k → fewD l[j] = true)) (fun i _ => l.length - (intOf i).toNat)
 case atStart => exact ⟨0, Nat.zero_le _, rfl, fun j _ h0 => absurd h0 (by omega)⟩
 case round =>
  obtain ⟨k, hk, rfl, hd⟩ := hrel
  by_cases hlt : k < l.length
  · have hltI : (k : Int) < (l.length : Int) := by omega
    obtain ⟨b1, o1, ra, rc, na, nc, rfl, hb1, x0, x1, x2, x3, x4, x5, _, hr, hn, hf⟩ := h.at_ hlt
    have f1 := hf.1
    have f2 := hf.2.1
    have f3 := hf.2.2.1
    have f4 := hf.2.2.2
    clear hf
    by_cases q1 : l[k].name.size > 100
    · have HS := hide (fewB_no hlt (by simp only [fewD]; rw [show decide (l[k].name.size ≤ 100) = false by simp; omega]; rfl))
      go_wp2_with fail
      go_ret
      exact ⟨ret_congr (by rw [HS.out]; rfl), rfl⟩
    by_cases q2 : l[k].refs.length > 30
    · have HS := hide (fewB_no hlt (by simp only [fewD]; rw [show decide (l[k].refs.length ≤ 30) = false by simp; omega]; simp))
      go_wp2_with fail
      go_ret
      exact ⟨ret_congr (by rw [HS.out]; rfl), rfl⟩
    by_cases q3 : l[k].nums.length > 30
    · have HS := hide (fewB_no hlt (by simp only [fewD]; rw [show decide (l[k].nums.length ≤ 30) = false by simp; omega]; simp))
      go_wp2_with fail
      go_ret
      exact ⟨ret_congr (by rw [HS.out]; rfl), rfl⟩
    go_wp2_with fail
    go_loop [4] (fun i => ∃ j : Nat, j ≤ l[k].refs.length ∧ i = .int .i64 j ∧ Hid (∀ x (q : x < l[k].refs.length), x < j → smallS l[k].refs[x] = true)) (fun i => l[k].refs.length - (intOf i).toNat)
    case atStart => exact ⟨0, Nat.zero_le _, rfl, fun j _ h0 => absurd h0 (by omega)⟩
    case round =>
     obtain ⟨j, hj, rfl, hs⟩ := hrel
     by_cases hlt2 : j < l[k].refs.length
     · obtain ⟨ad2, e2, hb2, y0⟩ := hr.at_ hlt2
       subst e2
       have f5 := f2 _ (List.getElem_mem hlt2)
       have hjI : (j : Int) < (l[k].refs.length : Int) := by omega
       by_cases q4 : l[k].refs[j].size > 100
       · have HS := hide (fewB_no hlt (by simp only [fewD]; rw [all_false_at hlt2 (show smallS l[k].refs[j] = false by simp [smallS]; omega)]; simp))
         go_wp2_with fail
         go_ret
         exact ⟨ret_congr (by rw [HS.out]; rfl), rfl⟩
       · have HQ := hide (show smallS l[k].refs[j] = true by simp [smallS]; omega)
         go_wp2_with fail
         go_round
         case rel => exact ⟨j + 1, by omega, by go_num, fun x q h1 => by
          rcases Nat.lt_or_ge x j with h2 | h2
          · exact hs x q h2
          · obtain rfl : x = j := by omega
            exact HQ⟩
         case measure => simp [intOf]; omega
     · have HQ := hide (show fewD l[k] = true by
         unfold fewD
         rw [all_true_of (p := smallS) (fun x hx => hs x hx (by omega))]
         simp; omega)
       go_wp2_with fail
       go_round
       case rel => exact ⟨k + 1, by omega, by go_num, fun x q h1 => by
           rcases Nat.lt_or_ge x k with h2 | h2
           · exact hd x q h2
           · obtain rfl : x = k := by omega
             exact HQ⟩
       case measure => simp [intOf]; omega
  · have HS := hide (fewB_end (all_true_of (p := fewD) (fun x hx => hd x hx (by omega))))
    go_wp2_with fail
    go_ret
    exact ⟨ret_congr (by rw [HS.out]; rfl), rfl⟩
end Go.Proofs.YtcfogipaadhbeaaGreatDoor
