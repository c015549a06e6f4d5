/-
  concordatlaw07.LabelOrder returns true: its walk.
-/
import Derived.Test.YtegjlgdbipfpaaaGreatDoorKeep
namespace Go.Proofs.YtegjlgdbipfpaaaGreatDoor
open Go Go.RowKit

/-- Does a label flow to another one? -/
def flow (s t s' t' : BitVec 64) : Bool := need s t s' t' == 0#64
theorem or_zero {a b : BitVec 64} : a ||| b = 0#64 ↔ a = 0#64 ∧ b = 0#64 := by
  constructor
  · intro h
    refine ⟨?_, ?_⟩ <;>
    · apply BitVec.eq_of_getLsbD_eq
      intro i _
      have := congrArg (fun x => x.getLsbD i) h
      simp only [BitVec.getLsbD_or, BitVec.getLsbD_zero, Bool.or_eq_false_iff] at this
      simp [this]
  · rintro ⟨rfl, rfl⟩; simp
theorem flow_iff {s t s' t' : BitVec 64} : flow s t s' t' = true ↔ win s s' = true ∧ win t' t = true := by
  unfold flow need win
  rw [beq_iff_eq, beq_iff_eq, beq_iff_eq, or_zero]
theorem flow_refl (s t : BitVec 64) : flow s t s t = true := flow_iff.2 ⟨win_refl _, win_refl _⟩
theorem flow_trans {s t s' t' u v : BitVec 64} (h : flow s t s' t' = true) (k : flow s' t' u v = true) : flow s t u v = true :=
  flow_iff.2 ⟨win_trans (flow_iff.1 h).1 (flow_iff.1 k).1, win_trans (flow_iff.1 k).2 (flow_iff.1 h).2⟩
theorem flow_anti {s t s' t' : BitVec 64} (h : flow s t s' t' = true) (k : flow s' t' s t = true) : s = s' ∧ t = t' :=
  ⟨win_anti (flow_iff.1 h).1 (flow_iff.1 k).1, win_anti (flow_iff.1 k).2 (flow_iff.1 h).2⟩
theorem flow_any (s t s' t' : BitVec 64) (w : World) : Calls Tryz.prog 9 #[.agg #[U s, U t], .agg #[U s', U t']] w fun e w' => e = .returned (.bool (flow s t s' t')) ∧ Below w.heap.size w w' := flows_any s t s' t' w

end Go.Proofs.YtegjlgdbipfpaaaGreatDoor
