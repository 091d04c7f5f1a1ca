/- Arguments of the rows of chapter 17: what a list of declarations is, and that arguments stay. Conditions: none. -/
import Derived.Test.YtanhkeeifnimgaaGreatDoorFr17
namespace Go.Proofs.YtanhkeeifnimgaaGreatDoor
open Go Go.Proofs Go.RowKit Go.ChangeShapes Go.WideShapes Go.ChangeAt Go.WideMaps Go.WideElems

set_option maxRecDepth 100000 in
/-- a list of declarations that came in -/
theorem opens_decls {H : Type} {enc : TypeId × Value → H} {w : World} {r : Reach} {b0 : Nat} {held : Bool} {v : Value} {d : DataW H} {p : List MemPlace} (hv : Value.okWide Tryz.prog w r b0 42 v) (h : DataW.Trod enc Tryz.prog w 0 (fun _ => true) held 42 v d p) :
    ∃ (A : Option Addr) (c : Nat) (l : List Decl), v = .slice A l.length c ∧ l.length ≤ c ∧ c ≤ maxLen ∧ Decls w w.heap.size A l ∧ ∀ x ∈ l, FineI x :=
  decls_open Tryz.underlying42 Tryz.underlying25 (by kernel_rfl) (by kernel_rfl) ⟨Tryz.underlying3, Tryz.underlying9, ⟨_, Tryz.underlying22, Tryz.underlying9, by kernel_rfl⟩, ⟨_, Tryz.underlying23, Tryz.underlying3, by kernel_rfl⟩, Tryz.underlying3, Tryz.underlying4⟩ hv h

/-- an argument that came in reads as it did, where old blocks have stayed -/
theorem arg_stays {H : Type} {enc : TypeId × Value → H} {W W' : World} {t : TypeId} {v : Value} {d : DataW H} {ps : List MemPlace} (hr : Tryz.prog.readableRec t = true) (hrow : t < Tryz.prog.types.size)
    (h : DataW.Trod enc Tryz.prog W 0 (fun _ => true) true t v d ps) (hb : Below W.heap.size W W') (hlt : ∀ x ∈ ps, x.block < W.heap.size) {sp : Nat → Bool} (hsp : ∀ x ∈ ps, sp x.block = true) : DataW.Trod enc Tryz.prog W' 0 sp true t v d ps :=
  WideElems.Trod_stays laidOut hr hrow h (fun x hx => hb.same (hlt x hx)) hsp
end Go.Proofs.YtanhkeeifnimgaaGreatDoor
