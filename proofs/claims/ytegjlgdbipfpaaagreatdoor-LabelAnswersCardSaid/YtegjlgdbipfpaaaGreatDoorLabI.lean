/-
  concordatlaw07.LabelNeeds returns true: its walk.
-/
import Derived.Test.YtegjlgdbipfpaaaGreatDoorLabH
import Derived.Deep.RegionHeld3
namespace Go.Proofs.YtegjlgdbipfpaaaGreatDoor
open Go Go.RowKit

theorem need_at (s t s' t' : BitVec 64) (w : World) : Calls Tryz.prog 12 #[.agg #[U s, U t], .agg #[U s', U t']] w fun e w' => e = .returned (U (need s t s' t')) ∧ Below w.heap.size w w' := need_any s t s' t' w
theorem with_at (s t s' t' o : BitVec 64) (w : World) : Calls Tryz.prog 11 #[.agg #[U s, U t], .agg #[U s', U t'], U o] w fun e w' => e = .returned (.bool (win (need s t s' t') o)) ∧ Below w.heap.size w w' := with_any s t s' t' o w
theorem win_or (a b : BitVec 64) : win a (a ||| b) = true := by
  rw [win_iff]
  intro i hi h
  simp [h]
theorem need_three (s1 t1 s2 t2 s3 t3 : BitVec 64) : win (need s1 t1 s3 t3) (need s1 t1 s2 t2 ||| need s2 t2 s3 t3) = true := by
  rw [win_iff]
  intro i hi
  simp only [need, BitVec.getLsbD_or, BitVec.getLsbD_and, BitVec.getLsbD_not, hi, decide_true, Bool.true_and]
  cases s1.getLsbD i <;> cases s2.getLsbD i <;> cases s3.getLsbD i <;> cases t1.getLsbD i <;> cases t2.getLsbD i <;> cases t3.getLsbD i <;> simp
theorem andNot_zero (a b : BitVec 64) : win a b = true → bits .andNot .u64 (a.toNat : Int) (b.toNat : Int) = 0 := by
  intro h
  rw [andNot_bv]
  unfold win at h
  rw [beq_iff_eq] at h
  rw [h]
  rfl
theorem andNot_some (a b : BitVec 64) : win a b = false → ¬ bits .andNot .u64 (a.toNat : Int) (b.toNat : Int) = 0 := by
  intro h h2
  rw [andNot_bv] at h2
  unfold win at h
  rw [beq_eq_false_iff_ne] at h
  exact h (BitVec.eq_of_toNat_eq (by simpa using (by omega : (a &&& ~~~b).toNat = 0)))

end Go.Proofs.YtegjlgdbipfpaaaGreatDoor
