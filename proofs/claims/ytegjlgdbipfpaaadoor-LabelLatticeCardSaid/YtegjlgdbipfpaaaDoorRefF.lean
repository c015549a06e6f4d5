/-
  The reference's only.
-/
import Derived.Test.YtegjlgdbipfpaaaDoorRefE
namespace Go.Proofs.YtegjlgdbipfpaaaDoor
open Go Go.RowKit

theorem ref_only (t : List UInt8) (w : World) : Calls Tryd.prog 54 #[Str t] w fun e w' => e = .returned (.tuple #[U 0#64, .bool (t == [110, 111, 110, 101])]) ∧ w = w' := by
  go_enter Tryd.func54, Tryd.ntmps54
  go_wp2
  go_ret2
  exact ⟨rfl, rfl⟩
end Go.Proofs.YtegjlgdbipfpaaaDoor
