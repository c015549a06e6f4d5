/-
  concordatlaw06.SetOrder returns true: its walk.
-/
import Derived.Test.YtegjlgdbipfpaaaGreatDoorAliveA
namespace Go.Proofs.YtegjlgdbipfpaaaGreatDoor
open Go Go.RowKit

/-- Is all of one set in another one? -/
def win (a b : BitVec 64) : Bool := a &&& ~~~b == 0#64
theorem win_iff (a b : BitVec 64) : win a b = true ↔ ∀ i, i < 64 → a.getLsbD i = true → b.getLsbD i = true := by
  unfold win
  rw [beq_iff_eq]
  constructor
  · intro h i hi ha
    have := congrArg (fun s => s.getLsbD i) h
    simp [ha, hi] at this
    exact this
  · intro h
    apply BitVec.eq_of_getLsbD_eq
    intro i hi
    have := h i hi
    rw [BitVec.getLsbD_and, BitVec.getLsbD_not]
    cases ha : a.getLsbD i <;> simp_all
theorem win_refl (a : BitVec 64) : win a a = true := (win_iff a a).2 fun _ _ h => h
theorem win_trans {a b c : BitVec 64} (h : win a b = true) (k : win b c = true) : win a c = true :=
  (win_iff a c).2 fun i hi ha => (win_iff b c).1 k i hi ((win_iff a b).1 h i hi ha)
theorem win_anti {a b : BitVec 64} (h : win a b = true) (k : win b a = true) : a = b := by
  apply BitVec.eq_of_getLsbD_eq
  intro i hi
  rw [Bool.eq_iff_iff]
  exact ⟨(win_iff a b).1 h i hi, (win_iff b a).1 k i hi⟩
theorem within_win (a b : BitVec 64) (w : World) : Calls Tryz.prog 32 #[.int .u64 (a.toNat : Int), .int .u64 (b.toNat : Int)] w fun e w' => e = .returned (.bool (win a b)) ∧ w = w' := within_any a b w

theorem minus_twice (a b : BitVec 64) : (a &&& ~~~b) &&& ~~~b = a &&& ~~~b := by rw [BitVec.and_assoc, BitVec.and_self]
theorem minus_within (a b : BitVec 64) : win (a &&& ~~~b) a = true := by
  rw [win_iff]; intro i hi h; simp at h; exact h.1
theorem within_or (a b : BitVec 64) : win a ((a &&& ~~~b) ||| b) = true := by
  rw [win_iff]; intro i hi h
  rw [BitVec.getLsbD_or, BitVec.getLsbD_and, BitVec.getLsbD_not, h]
  cases hb : b.getLsbD i <;> simp [hi]
theorem filter_split (l : List Nat) (p q : Nat → Bool) : (l.filter (fun i => p i && !q i)).length + (l.filter (fun i => p i && q i)).length = (l.filter p).length := by
  induction l with
  | nil => rfl
  | cons x l ih => cases hp : p x <;> cases hq : q x <;> simp [hp, hq] <;> omega
theorem cats_split (a b : BitVec 64) : (cats (a &&& ~~~b)).length + (cats (a &&& b)).length = (cats a).length := by
  unfold cats
  rw [← filter_split (List.range 64) (fun i => a.getLsbD i) (fun i => b.getLsbD i)]
  congr 2
  · apply List.filter_congr
    intro i hi
    rw [List.mem_range] at hi
    simp [hi]
  · apply List.filter_congr
    intro i hi
    simp

theorem row_shape {w : World} {base size k : Nat} {e : TypeId} {v : Value} {xs : List Value} (h : w.ownsRow base e size v k xs) : ∃ a cap, v = .slice a k cap := by
  rcases h.2 with ⟨rfl, h0⟩ | ⟨g, cap, _, rfl, _⟩
  · exact ⟨none, 0, by rw [h0]⟩
  · exact ⟨_, cap, rfl⟩
end Go.Proofs.YtegjlgdbipfpaaaGreatDoor
