/-
  The reference's only.
-/
import Derived.Test.YtegjlgdbipfpaaaGreatDoorRefE
namespace Go.Proofs.YtegjlgdbipfpaaaGreatDoor
open Go Go.RowKit

theorem ref_only (t : List UInt8) (w : World) : Calls Tryz.prog 49 #[Str t] w fun e w' => e = .returned (.tuple #[U 0#64, .bool (t == [110, 111, 110, 101])]) ∧ w = w' := by
  go_enter Tryz.func49, Tryz.ntmps49
  go_wp2
  go_ret2
  exact ⟨rfl, rfl⟩
end Go.Proofs.YtegjlgdbipfpaaaGreatDoor
