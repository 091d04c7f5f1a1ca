/- Arguments of the rows of chapter 17: what a list of declarations is, and that arguments stay. Conditions: none. -/
import Derived.Test.YtanhkeeifnimgaaDoorFr17
namespace Go.Proofs.YtanhkeeifnimgaaDoor
open Go Go.Proofs Go.RowKit Go.ChangeShapes Go.WideShapes Go.ChangeAt Go.WideMaps Go.WideElems

set_option maxRecDepth 100000 in
/-- a list of declarations that came in -/
theorem opens_decls {H : Type} {enc : TypeId × Value → H} {w : World} {r : Reach} {b0 : Nat} {held : Bool} {v : Value} {d : DataW H} {p : List MemPlace} (hv : Value.okWide Tryd.prog w r b0 23 v) (h : DataW.Trod enc Tryd.prog w 0 (fun _ => true) held 23 v d p) :
    ∃ (A : Option Addr) (c : Nat) (l : List Decl), v = .slice A l.length c ∧ l.length ≤ c ∧ c ≤ maxLen ∧ Decls w w.heap.size A l ∧ ∀ x ∈ l, FineI x :=
  decls_open Tryd.underlying23 Tryd.underlying38 (by kernel_rfl) (by kernel_rfl) ⟨Tryd.underlying3, Tryd.underlying9, ⟨_, Tryd.underlying35, Tryd.underlying9, by kernel_rfl⟩, ⟨_, Tryd.underlying36, Tryd.underlying3, by kernel_rfl⟩, Tryd.underlying3, Tryd.underlying4⟩ hv h

/-- an argument that came in reads as it did, where old blocks have stayed -/
theorem arg_stays {H : Type} {enc : TypeId × Value → H} {W W' : World} {t : TypeId} {v : Value} {d : DataW H} {ps : List MemPlace} (hr : Tryd.prog.readableRec t = true) (hrow : t < Tryd.prog.types.size)
    (h : DataW.Trod enc Tryd.prog W 0 (fun _ => true) true t v d ps) (hb : Below W.heap.size W W') (hlt : ∀ x ∈ ps, x.block < W.heap.size) {sp : Nat → Bool} (hsp : ∀ x ∈ ps, sp x.block = true) : DataW.Trod enc Tryd.prog W' 0 sp true t v d ps :=
  WideElems.Trod_stays laidOut hr hrow h (fun x hx => hb.same (hlt x hx)) hsp
end Go.Proofs.YtanhkeeifnimgaaDoor
