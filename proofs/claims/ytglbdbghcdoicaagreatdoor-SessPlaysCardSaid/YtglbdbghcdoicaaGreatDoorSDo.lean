/- The document's Decode, opened. -/
import Derived.Test.YtglbdbghcdoicaaGreatDoorSFv
import Derived.Test.YtglbdbghcdoicaaGreatDoorZDocR
namespace Go.Proofs.YtglbdbghcdoicaaGreatDoor
open Go.RowKit

section
variable {W w' : World} {e : Ending} {xs : List Int}
theorem DocQ.open_ (h : DocQ W (decRq xs) e w') : ∃ v, e = .returned (.tuple #[.agg (rqC v (decRq xs).1), .int .i64 (fcode (decRq xs).2), .int .i64 (fplace (decRq xs).2)]) ∧ CellsOwn w' W.heap.size v (decRq xs).1.cs ∧ Below W.heap.size W w' := by
  obtain ⟨hb, h⟩ := h
  rcases hd : decRq xs with ⟨q, _ | ⟨c, p⟩⟩
  · rw [hd] at h
    obtain ⟨v, h1, h2⟩ := h
    exact ⟨v, h1, h2, hb⟩
  · obtain ⟨rfl, h0⟩ := decRq_fault hd
    rw [hd] at h
    exact ⟨nilS, h, World.ownsRow_nil _ _ _ _, hb⟩
end
end Go.Proofs.YtglbdbghcdoicaaGreatDoor
