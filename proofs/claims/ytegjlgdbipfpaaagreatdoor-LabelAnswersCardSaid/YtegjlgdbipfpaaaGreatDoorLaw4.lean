/-
  concordatlaw06.SetBack returns true: its walk.
-/
import Derived.Test.YtegjlgdbipfpaaaGreatDoorAliveA
namespace Go.Proofs.YtegjlgdbipfpaaaGreatDoor
open Go Go.RowKit

theorem ofBits_ints (l : List Nat) : ofBits (toInts l) = orAll l := by
  unfold ofBits orAll toInts
  rw [List.foldl_map]
  rfl
theorem ofRes_cats (s : BitVec 64) : ofRes (toInts (cats s)) = .tuple #[U s, .bool true] := by
  have h : (toInts (cats s)).all isCat = true := by
    rw [List.all_eq_true]
    intro x hx
    obtain ⟨c, hc, rfl⟩ := List.mem_map.1 hx
    have := cats_lt hc
    simp [isCat]; omega
  rw [ofRes, if_pos h, ofBits_ints, orAll_cats]
theorem cats_rising (s : BitVec 64) (i j : Nat) (h : i < j) (hj : j < (cats s).length) : (toInts (cats s))[i]?.getD 0 < (toInts (cats s))[j]?.getD 0 := by
  have hs : (cats s).Pairwise (· < ·) := by unfold cats; exact List.Pairwise.filter _ List.pairwise_lt_range
  have := List.pairwise_iff_getElem.1 hs i j (by omega) hj h
  simp only [toInts, List.getElem?_map, List.getElem?_eq_getElem hj, List.getElem?_eq_getElem (show i < (cats s).length by omega), Option.map_some, Option.getD_some]
  omega
theorem show_len (s : BitVec 64) : (showL s).length ≤ 400 := by
  unfold showL
  split
  · simp
  · have h := join_len (texts s) (fun x hx => by
      obtain ⟨p, hp, rfl⟩ := List.mem_map.1 hx
      exact spanText_len p (spans_lt hp).1 (spans_lt hp).2)
    have h2 : (texts s).length ≤ 64 := by
      unfold texts
      rw [List.length_map]
      exact Nat.le_trans (spansOf_length _) (cats_length s)
    omega
end Go.Proofs.YtegjlgdbipfpaaaGreatDoor
