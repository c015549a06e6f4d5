/-
  concordatref00.SameInts and CopyInts.
-/
import Derived.Test.YtegjlgdbipfpaaaGreatDoorPlain
namespace Go.Proofs.YtegjlgdbipfpaaaGreatDoor
open Go Go.RowKit
theorem IntsAt.shape {w : World} {v : Value} {L : List Int} (h : IntsAt w v L) : ∃ a cap, v = .slice a L.length cap := by
  rcases h with ⟨rfl, a, cap, rfl⟩ | ⟨b, off, cap, rfl, _⟩
  · exact ⟨a, cap, rfl⟩
  · exact ⟨_, cap, rfl⟩
end Go.Proofs.YtegjlgdbipfpaaaGreatDoor
