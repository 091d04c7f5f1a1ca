/- The walks of exodusref17: form, shape, Valid, Few, KindName, SameDecl, Same. Conditions: lengths that fit memory. -/
import Derived.Test.YtanhkeeifnimgaaGreatDoorRef17
namespace Go.Proofs.YtanhkeeifnimgaaGreatDoor
open Go Go.RowKit

/-- what 'form' answers -/
def formB (nm : ByteArray) (rn nn : Nat) (bY : Int) (al : Bool) (name : Bool) (least most numbers : Int) (by_ always : Bool) : Bool :=
  (name == !nm.toList.isEmpty) && decide (least ≤ (rn : Int)) && decide ((rn : Int) ≤ most) && ((nn : Int) == numbers) && (by_ || decide (bY = 0)) && (always || !al)

set_option maxHeartbeats 1000000 in
theorem form_any (k : Int) (nm : ByteArray) (ra : Option Addr) (rn rc : Nat) (na : Option Addr) (nn nc : Nat) (bY : Int) (al : Bool) (name : Bool) (least most numbers : Int) (by_ always : Bool) (w : World) :
    Calls Tryz.prog 47 #[.agg #[.int .i64 k, .string nm, .slice ra rn rc, .slice na nn nc, .int .i64 bY, .bool al], .bool name, .int .i64 least, .int .i64 most, .int .i64 numbers, .bool by_, .bool always] w
      fun e w' => e = .returned (.bool (formB nm rn nn bY al name least most numbers by_ always)) ∧ Below w.heap.size w w' := by
  go_enter Tryz.func47, Tryz.ntmps47
  go_wp2
  all_goals
    go_ret
    refine ⟨ret_congr (congrArg Value.bool ?_), (Below.refl _ _).alloc (Nat.le_refl _) _⟩
    simp_all [formB]
    try (intros; omega)

/-- the table of 'shape' -/
def shapeB (k : Int) (nm : ByteArray) (rn nn : Nat) (bY : Int) (al : Bool) : Bool :=
  if k = 0 ∨ k = 1 then formB nm rn nn bY al true 0 0 0 false false
  else if k = 2 then formB nm rn nn bY al true 2 2 0 false false
  else if k = 3 then formB nm rn nn bY al true 1 1 1 false false
  else if k = 4 then formB nm rn nn bY al false 2 2 1 false false
  else if k = 5 then formB nm rn nn bY al true 1 16 3 false false
  else if k = 6 then formB nm rn nn bY al true 1 16 4 false false
  else if k = 7 then formB nm rn nn bY al true 1 1 3 false false
  else if k = 8 then formB nm rn nn bY al false 1 1 2 false false
  else if k = 9 then formB nm rn nn bY al false 0 0 0 true false && decide (1 ≤ bY) && decide (bY ≤ 7)
  else if k = 10 then formB nm rn nn bY al false 1 1 0 false false
  else if k = 11 then formB nm rn nn bY al false 1 1 1 false true
  else if k = 12 then formB nm rn nn bY al false 1 1 1 true false && decide (2 ≤ bY) && decide (bY ≤ 4)
  else if k = 13 then formB nm rn nn bY al false 2 17 0 false false
  else if k = 14 then formB nm rn nn bY al false 2 2 0 false false
  else if k = 15 then formB nm rn nn bY al false 0 0 1 false false
  else if k = 16 then formB nm rn nn bY al false 1 1 1 false false
  else false
set_option maxHeartbeats 2000000 in
theorem shape_any (k : Int) (nm : ByteArray) (ra : Option Addr) (rn rc : Nat) (na : Option Addr) (nn nc : Nat) (bY : Int) (al : Bool) (w : World) :
    Calls Tryz.prog 25 #[.agg #[.int .i64 k, .string nm, .slice ra rn rc, .slice na nn nc, .int .i64 bY, .bool al]] w
      fun e w' => e = .returned (.bool (shapeB k nm rn nn bY al)) ∧ Below w.heap.size w w' := by
  go_enter Tryz.func25, Tryz.ntmps25
  go_wp2_with ((go_at_call 47; refine (form_any k nm ra rn rc na nn nc bY al _ _ _ _ _ _ _).mono ?_; rintro e w1 ⟨rfl, hb⟩; obtain ⟨hc1, _⟩ := bcell hb))
  all_goals
    go_ret
    refine ⟨ret_congr (congrArg Value.bool ?_), ?_⟩
    · simp_all [shapeB]
      try (intros; omega)
    · first | exact ((Below.refl _ _).alloc (Nat.le_refl _) _).trans (hb.mono (by simp)) | exact (Below.refl _ _).alloc (Nat.le_refl _) _
end Go.Proofs.YtanhkeeifnimgaaGreatDoor
