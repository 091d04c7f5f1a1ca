/- A part of the claim: see its last text. -/
import Derived.Test.YtcfogipaadhbeaaGreatDoorUOpensZ
import Derived.Test.YtcfogipaadhbeaaGreatDoorUK38
import Derived.Carry

set_option maxRecDepth 100000
set_option maxHeartbeats 16000000
namespace Go.Proofs.YtcfogipaadhbeaaGreatDoor
open Go Go.Proofs Go.RowKit Go.ChangeShapes Go.WideShapes Go.ChangeAt Go.WideMaps Go.WideElems
theorem opens_decls {H : Type} {enc : TypeId × Value → H} {w : World} {r : Reach} {b0 : Nat} {held : Bool} {v : Value} {d : DataW H} {p : List MemPlace} (hv : Value.okWide Tryz.prog w r b0 22 v) (h : DataW.Trod enc Tryz.prog w 0 (fun _ => true) held 22 v d p) :
    ∃ (A : Option Addr) (c : Nat) (l : List Decl), v = .slice A l.length c ∧ l.length ≤ c ∧ c ≤ maxLen ∧ Decls w w.heap.size A l ∧ ∀ x ∈ l, FineI x :=
 decls_open Tryz.underlying22 Tryz.underlying43 (by kernel_rfl) (by kernel_rfl) ⟨Tryz.underlying3, Tryz.underlying9, ⟨_, Tryz.underlying25, Tryz.underlying9, by kernel_rfl⟩, ⟨_, Tryz.underlying41, Tryz.underlying3, by kernel_rfl⟩, Tryz.underlying3, Tryz.underlying4⟩ hv h
end Go.Proofs.YtcfogipaadhbeaaGreatDoor
