/- A part of the claim: see its last text. -/
import Derived.Test.YtmjcgcnpeoemdaaGreatDoorUK31

set_option maxRecDepth 100000
set_option maxHeartbeats 16000000
namespace Go.Proofs.YtmjcgcnpeoemdaaGreatDoor
open Go Go.RowKit Go.Proofs
theorem OwnU.some_ {B : Nat} {w : World} {v : Value} {l : List UnitM} (h : OwnU B w v l) {k : Nat} (hv : v.ownBlock = some k) : ∃ g c, v = .slice (some ⟨g, 0, none⟩) l.length c ∧ B ≤ g ∧ g < w.heap.size ∧ l.length ≤ c ∧ c ≤ 9223372036854775807 := by
 rcases h.2 with ⟨rfl, _⟩ | ⟨g, cap, cur, rfl, hB, hh, hc, hm, _⟩
 · cases hv
 · have hx : maxLen = 9223372036854775807 := by decide
   exact ⟨g, cap, rfl, hB, Blk.lt hh, hc, by omega⟩
end Go.Proofs.YtmjcgcnpeoemdaaGreatDoor
