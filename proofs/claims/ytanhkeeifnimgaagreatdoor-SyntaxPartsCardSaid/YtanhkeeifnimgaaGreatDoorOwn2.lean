/- append onto a slice of strings of the call's own, inside a region that draws its order. Conditions: lengths that fit memory. -/
import Derived.Test.YtanhkeeifnimgaaGreatDoorOwn
namespace Go.Proofs.YtanhkeeifnimgaaGreatDoor
open Go Go.RowKit
theorem step_append_strs {ops : Array Oper} {o : Oper} {a : Act} {K : Act → World → Prop} {Q : Exit → Act → World → Prop} {E : Prop} {w : World} (hgd : o.guard = none) (s x : Operand)
    (ho : o.op = .call { callee := .builtin .append, args := #[s, x], argTypes := #[22, 22] })
    (base : Nat) (v : Value) (l : List ByteArray) (hs : a.eval s = v) (hown : OwnS base w v l)
    (B : Nat) (A : Option Addr) (c : Nat) (m : List ByteArray) (hx : a.eval x = .slice A m.length c) (hr : Strs w B A m)
    (hlen : l.length + m.length ≤ 1099511627776) (hbase : base ≤ w.heap.size)
    (h : ∀ v' w', OwnS base w' v' (l ++ m) → w.grownBy w' v.ownBlock → (v'.ownBlock = v.ownBlock ∨ v'.ownBlock = some w.heap.size) → K (a.put o.dst v') w') :
    if Region.wanted o (yielded ops a.tmps) = true then Oper.wp Tryz.prog o a w K Q else E := by
  have hw : Region.wanted o (yielded ops a.tmps) = true := by simp [Region.wanted, hgd]
  rw [if_pos hw]
  obtain ⟨i0, hi, hz0, hz1, hz2⟩ := info_parts infoS
  refine wp_append_any w s x 22 ho base 9 i0 _ 1 16 Tryz.underlying22 hi hz0 hz1 hz2 rfl (by omega) v l.length (l.map .string) hs hown B A m.length c (m.map .string) hx hr ?_ ?_ ?_ hbase
    fun v' w' h2 h3 h4 => h v' w' ?_ h3 h4
  · intro u hu
    obtain ⟨y, _, rfl⟩ := List.mem_map.1 hu
    rfl
  · unfold maxLen; omega
  · omega
  · unfold OwnS; rw [List.map_append, List.length_append]; exact h2
end Go.Proofs.YtanhkeeifnimgaaGreatDoor
