/-
  Joins and meets: plain laws, and the contracts at labels that were loaded.
-/
import Derived.Test.YtegjlgdbipfpaaaGreatDoorLabJ
namespace Go.Proofs.YtegjlgdbipfpaaaGreatDoor
open Go Go.RowKit

theorem join_at (s t s' t' : BitVec 64) (w : World) : Calls Tryz.prog 14 #[.agg #[U s, U t], .agg #[U s', U t']] w fun e w' => e = .returned (.agg #[U (s ||| s'), U (t &&& t')]) ∧ Below w.heap.size w w' := join_any s t s' t' w
theorem meet_at (s t s' t' : BitVec 64) (w : World) : Calls Tryz.prog 16 #[.agg #[U s, U t], .agg #[U s', U t']] w fun e w' => e = .returned (.agg #[U (s &&& s'), U (t ||| t')]) ∧ Below w.heap.size w w' := meet_any s t s' t' w
theorem need_join (s1 t1 s2 t2 s3 t3 : BitVec 64) : need (s1 ||| s2) (t1 &&& t2) s3 t3 = need s1 t1 s3 t3 ||| need s2 t2 s3 t3 := by
  apply BitVec.eq_of_getLsbD_eq
  intro i hi
  simp only [need, BitVec.getLsbD_or, BitVec.getLsbD_and, BitVec.getLsbD_not, hi, decide_true, Bool.true_and]
  cases s1.getLsbD i <;> cases s2.getLsbD i <;> cases s3.getLsbD i <;> cases t1.getLsbD i <;> cases t2.getLsbD i <;> cases t3.getLsbD i <;> rfl
theorem need_meet (s1 t1 s2 t2 s3 t3 : BitVec 64) : need s3 t3 (s1 &&& s2) (t1 ||| t2) = need s3 t3 s1 t1 ||| need s3 t3 s2 t2 := by
  apply BitVec.eq_of_getLsbD_eq
  intro i hi
  simp only [need, BitVec.getLsbD_or, BitVec.getLsbD_and, BitVec.getLsbD_not, hi, decide_true, Bool.true_and]
  cases s1.getLsbD i <;> cases s2.getLsbD i <;> cases s3.getLsbD i <;> cases t1.getLsbD i <;> cases t2.getLsbD i <;> cases t3.getLsbD i <;> rfl
theorem win_join (x y o : BitVec 64) : win (x ||| y) o = (win x o && win y o) := by
  rw [Bool.eq_iff_iff, Bool.and_eq_true, win_iff, win_iff, win_iff]
  constructor
  · intro h
    exact ⟨fun i hi hx => h i hi (by simp [hx]), fun i hi hx => h i hi (by simp [hx])⟩
  · rintro ⟨h1, h2⟩ i hi hx
    rw [BitVec.getLsbD_or, Bool.or_eq_true] at hx
    rcases hx with hx | hx
    · exact h1 i hi hx
    · exact h2 i hi hx

end Go.Proofs.YtegjlgdbipfpaaaGreatDoor
