/-
  The reference's decimal. (under way)
-/
import Derived.Test.YtegjlgdbipfpaaaGreatDoorRefF
namespace Go.Proofs.YtegjlgdbipfpaaaGreatDoor
open Go Go.RowKit

set_option maxRecDepth 100000 in
theorem ref_decimal (n : Nat) (h : n < 10) (w : World) : Calls Tryz.prog 57 #[.int .i64 n] w fun e w' => e = .returned (Str (dec2 n)) ∧ Below w.heap.size w w' := by
  have hcv := run_convert_bytes_arg (P := Tryz.prog) (w.alloc (.cells #[.int .u8 (48 + (n : Int))] 5)) 25 5 Tryz.underlying25 Tryz.underlying5 w.heap.size 0 1 1 [48 + (n : Int)] rfl (fun i hi => by
    obtain rfl : i = 0 := by omega
    exact cell_one_new _ _ _ 0 _ rfl) 9 Tryz.underlying9
  have hs : Str (dec2 n) = .string (strOfNums [48 + (n : Int)]) := by
    have H : ∀ m : Nat, m < 10 → (strOfNums [48 + (m : Int)]).data.toList = [UInt8.ofNat (48 + m)] := by decide +kernel
    have e := H n h
    rw [dec2, if_pos h, ← e]
  have HS := Lib.hid hs
  clear hs
  go_enter Tryz.func57, Tryz.ntmps57
  go_wp2
  go_ret
  exact ⟨congrArg Ending.returned HS.out.symm, (Below.refl _ _).alloc (Nat.le_refl _) _⟩
set_option maxRecDepth 100000 in
theorem ref_decimal2 (q r : Nat) (hq : q < 10) (hr : r < 10) (h1 : 1 ≤ q) (w : World) : Calls Tryz.prog 57 #[.int .i64 ((10 * q + r : Nat) : Int)] w fun e w' => e = .returned (Str (dec2 (10 * q + r))) ∧ Below w.heap.size w w' := by
  have hcv := run_convert_bytes_arg (P := Tryz.prog) (w.alloc (.cells #[.int .u8 (48 + (10 * (q : Int) + r) / 10), .int .u8 (48 + (r : Int) % 10)] 5)) 25 5 Tryz.underlying25 Tryz.underlying5 w.heap.size 0 2 2 [48 + (10 * (q : Int) + r) / 10, 48 + (r : Int) % 10] rfl (fun i hi => by
    have hi' : i = 0 ∨ i = 1 := by omega
    rcases hi' with rfl | rfl <;> (rw [cell_of_row _ w.heap.size _ _ _ (0, 0) (heap_alloc_new w _)]; rfl)) 9 Tryz.underlying9
  have hs : Str (dec2 (10 * q + r)) = .string (strOfNums [48 + (10 * (q : Int) + r) / 10, 48 + (r : Int) % 10]) := by
    have H : ∀ a : Nat, a < 10 → ∀ b : Nat, b < 10 → 1 ≤ a → (strOfNums [48 + (10 * (a : Int) + b) / 10, 48 + (b : Int) % 10]).data.toList = dec2 (10 * a + b) := by decide +kernel
    rw [← H q hq r hr h1]
  have HS := Lib.hid hs
  clear hs
  go_enter Tryz.func57, Tryz.ntmps57
  go_wp2
  go_ret
  exact ⟨congrArg Ending.returned HS.out.symm, (Below.refl _ _).alloc (Nat.le_refl _) _⟩
end Go.Proofs.YtegjlgdbipfpaaaGreatDoor
