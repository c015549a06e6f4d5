/-
  concordatlaw07.LabelRaises returns true: its walk.
-/
import Derived.Test.YtegjlgdbipfpaaaGreatDoorLabI
namespace Go.Proofs.YtegjlgdbipfpaaaGreatDoor
open Go Go.RowKit

theorem raise_at (s t m d : BitVec 64) (w : World) : Calls Tryz.prog 18 #[.agg #[U s, U t], U m, U d] w fun e w' => e = .returned (.agg #[U (s ||| m), U (t &&& ~~~d)]) ∧ Below w.heap.size w w' := raise_any s t m d w
theorem raise_back (s t m d : BitVec 64) : win (need (s ||| m) (t &&& ~~~d) s t) (m ||| d) = true := by
  rw [win_iff]
  intro i hi
  simp only [need, BitVec.getLsbD_or, BitVec.getLsbD_and, BitVec.getLsbD_not, hi, decide_true, Bool.true_and]
  cases s.getLsbD i <;> cases t.getLsbD i <;> cases m.getLsbD i <;> cases d.getLsbD i <;> simp
theorem raise_flow (s t m d : BitVec 64) : flow s t (s ||| m) (t &&& ~~~d) = true := by
  rw [flow_iff]
  exact ⟨win_or s m, minus_within t d⟩
theorem raise_twice (s t m d : BitVec 64) : s ||| m ||| m = s ||| m ∧ t &&& ~~~d &&& ~~~d = t &&& ~~~d := ⟨by rw [BitVec.or_assoc, BitVec.or_self], minus_twice t d⟩

end Go.Proofs.YtegjlgdbipfpaaaGreatDoor
