/-
  The walks of the small functions of the package set: there, Has, Minus, Within, Low, NewPool, Taken.
-/
import Derived.Test.YtegjlgdbipfpaaaGreatDoorChecked
import Derived.Test.YtegjlgdbipfpaaaGreatDoorBits
import Derived.Shelf.Spec.TrailingZeros
import Derived.WalkKit
import Derived.WalkLawsBesides
import Derived.WalkSpells
import Derived.Outline
import Derived.Lib.Hide
namespace Go.Proofs.YtegjlgdbipfpaaaGreatDoor
open Go Go.RowKit
theorem ret_of {v v' : Value} (h : v = v') : Ending.returned v = Ending.returned v' := by rw [h]
theorem there_in (c : Int) (w : World) (h0 : 0 ≤ c) (h1 : c < 64) : Calls Tryz.prog 76 #[.int .i64 c] w fun e w' => e = .returned (.bool true) ∧ w = w' := by
  go_enter Tryz.func76, Tryz.ntmps76
  go_wp2
  go_ret
  exact ⟨rfl, rfl⟩
theorem there_no (c : Int) (w : World) (h : c < 0 ∨ 64 ≤ c) : Calls Tryz.prog 76 #[.int .i64 c] w fun e w' => e = .returned (.bool false) ∧ w = w' := by
  rcases h with h | h
  · go_enter Tryz.func76, Tryz.ntmps76
    go_wp2
    go_ret
    exact ⟨rfl, rfl⟩
  · have h0 : 0 ≤ c := by omega
    have h2 : ¬ c < 64 := by omega
    go_enter Tryz.func76, Tryz.ntmps76
    go_wp2
    go_ret
    exact ⟨rfl, rfl⟩
/-- Is a number a category? -/
def isCat (c : Int) : Bool := decide (0 ≤ c) && decide (c < 64)
theorem there_any (c : Int) (w : World) : Calls Tryz.prog 76 #[.int .i64 c] w fun e w' => e = .returned (.bool (isCat c)) ∧ w = w' := by
  by_cases h : 0 ≤ c ∧ c < 64
  · have e : isCat c = true := by simp [isCat, h.1, h.2]
    rw [e]; exact there_in c w h.1 h.2
  · have e : isCat c = false := by simp [isCat]; omega
    rw [e]; exact there_no c w (by omega)

/-- Is a category in a set? -/
def hasB (s : BitVec 64) (c : Int) : Bool := decide (0 ≤ c) && s.getLsbD c.toNat
theorem minus_any (s t : BitVec 64) (w : World) : Calls Tryz.prog 33 #[U s, U t] w fun e w' => e = .returned (U (s &&& ~~~t)) ∧ w = w' := by
  go_enter Tryz.func33, Tryz.ntmps33
  go_wp2
  go_ret
  exact ⟨ret_of (congrArg (Value.int .u64) (andNot_bv s t)), rfl⟩
theorem within_any (s t : BitVec 64) (w : World) : Calls Tryz.prog 32 #[U s, U t] w fun e w' => e = .returned (.bool (s &&& ~~~t == 0#64)) ∧ w = w' := by
  have h := Lib.hid ((congrArg (fun z : Int => z == 0) (andNot_bv s t)).trans (zero_bv (s &&& ~~~t)))
  go_enter Tryz.func32, Tryz.ntmps32
  go_wp2
  go_ret
  exact ⟨ret_of (congrArg Value.bool h.out), rfl⟩
end Go.Proofs.YtegjlgdbipfpaaaGreatDoor
