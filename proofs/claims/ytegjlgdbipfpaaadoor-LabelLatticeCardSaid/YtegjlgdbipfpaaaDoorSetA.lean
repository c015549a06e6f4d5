/-
  The walks of the small functions of the package set: there, Has, Minus, Within, Low, NewPool, Taken.
-/
import Derived.Test.YtegjlgdbipfpaaaDoorChecked
import Derived.Test.YtegjlgdbipfpaaaDoorBits
import Derived.Shelf.Spec.TrailingZeros
import Derived.WalkKit
import Derived.WalkLawsBesides
import Derived.WalkSpells
import Derived.Outline
import Derived.Lib.Hide
namespace Go.Proofs.YtegjlgdbipfpaaaDoor
open Go Go.RowKit
theorem ret_of {v v' : Value} (h : v = v') : Ending.returned v = Ending.returned v' := by rw [h]
theorem there_in (c : Int) (w : World) (h0 : 0 ≤ c) (h1 : c < 64) : Calls Tryd.prog 49 #[.int .i64 c] w fun e w' => e = .returned (.bool true) ∧ w = w' := by
  go_enter Tryd.func49, Tryd.ntmps49
  go_wp2
  go_ret
  exact ⟨rfl, rfl⟩
theorem there_no (c : Int) (w : World) (h : c < 0 ∨ 64 ≤ c) : Calls Tryd.prog 49 #[.int .i64 c] w fun e w' => e = .returned (.bool false) ∧ w = w' := by
  rcases h with h | h
  · go_enter Tryd.func49, Tryd.ntmps49
    go_wp2
    go_ret
    exact ⟨rfl, rfl⟩
  · have h0 : 0 ≤ c := by omega
    have h2 : ¬ c < 64 := by omega
    go_enter Tryd.func49, Tryd.ntmps49
    go_wp2
    go_ret
    exact ⟨rfl, rfl⟩
/-- Is a number a category? -/
def isCat (c : Int) : Bool := decide (0 ≤ c) && decide (c < 64)
theorem there_any (c : Int) (w : World) : Calls Tryd.prog 49 #[.int .i64 c] w fun e w' => e = .returned (.bool (isCat c)) ∧ w = w' := by
  by_cases h : 0 ≤ c ∧ c < 64
  · have e : isCat c = true := by simp [isCat, h.1, h.2]
    rw [e]; exact there_in c w h.1 h.2
  · have e : isCat c = false := by simp [isCat]; omega
    rw [e]; exact there_no c w (by omega)

/-- Is a category in a set? -/
def hasB (s : BitVec 64) (c : Int) : Bool := decide (0 ≤ c) && s.getLsbD c.toNat
theorem has_any (s : BitVec 64) (c : Int) (w : World) : Calls Tryd.prog 24 #[U s, .int .i64 c] w fun e w' => e = .returned (.bool (hasB s c)) ∧ w = w' := by
  by_cases h : 0 ≤ c ∧ c < 64
  · obtain ⟨h0, h1⟩ := h
    have e : hasB s c = s.getLsbD c.toNat := by simp [hasB, h0]
    go_enter Tryd.func24, Tryd.ntmps24
    go_wp2_with (go_at_call 49; refine (there_in _ _ (by omega) (by omega)).mono ?_; rintro e w' ⟨rfl, rfl⟩)
    go_ret
    exact ⟨ret_of (congrArg Value.bool ((has_bv s c.toNat).trans e.symm)), rfl⟩
  · have e : hasB s c = false := by
      by_cases h0 : 0 ≤ c
      · have : s.getLsbD c.toNat = false := BitVec.getLsbD_of_ge _ _ (by omega)
        simp [hasB, this]
      · simp [hasB, h0]
    have h' : c < 0 ∨ 64 ≤ c := by omega
    clear h
    rw [e]
    go_enter Tryd.func24, Tryd.ntmps24
    go_wp2_with (go_at_call 49; refine (there_no _ _ h').mono ?_; rintro e w' ⟨rfl, rfl⟩)
    go_ret
    exact ⟨rfl, rfl⟩
theorem minus_any (s t : BitVec 64) (w : World) : Calls Tryd.prog 28 #[U s, U t] w fun e w' => e = .returned (U (s &&& ~~~t)) ∧ w = w' := by
  go_enter Tryd.func28, Tryd.ntmps28
  go_wp2
  go_ret
  exact ⟨ret_of (congrArg (Value.int .u64) (andNot_bv s t)), rfl⟩
theorem within_any (s t : BitVec 64) (w : World) : Calls Tryd.prog 26 #[U s, U t] w fun e w' => e = .returned (.bool (s &&& ~~~t == 0#64)) ∧ w = w' := by
  have h := Lib.hid ((congrArg (fun z : Int => z == 0) (andNot_bv s t)).trans (zero_bv (s &&& ~~~t)))
  go_enter Tryd.func26, Tryd.ntmps26
  go_wp2
  go_ret
  exact ⟨ret_of (congrArg Value.bool h.out), rfl⟩
end Go.Proofs.YtegjlgdbipfpaaaDoor
