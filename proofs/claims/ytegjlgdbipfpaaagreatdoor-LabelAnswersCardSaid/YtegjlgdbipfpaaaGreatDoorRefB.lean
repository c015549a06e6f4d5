/-
  The reference's Take and Many.
-/
import Derived.Test.YtegjlgdbipfpaaaGreatDoorRefA
namespace Go.Proofs.YtegjlgdbipfpaaaGreatDoor
open Go Go.RowKit

/-- The categories of a set below k. -/
def catsTo (s : BitVec 64) (k : Nat) : List Nat := (List.range k).filter (fun i => s.getLsbD i)
theorem catsTo_all (s : BitVec 64) : catsTo s 64 = cats s := rfl
theorem catsTo_yes (s : BitVec 64) (k : Nat) (h : s.getLsbD k = true) : catsTo s (k + 1) = catsTo s k ++ [k] := by
  unfold catsTo; rw [List.range_succ, List.filter_append]; simp [h]
theorem catsTo_no (s : BitVec 64) (k : Nat) (h : s.getLsbD k = false) : catsTo s (k + 1) = catsTo s k := by
  unfold catsTo; rw [List.range_succ, List.filter_append]; simp [h]
theorem catsTo_lt (s : BitVec 64) (k : Nat) : ∀ c ∈ catsTo s k, c < k := by
  intro c hc; unfold catsTo at hc; rw [List.mem_filter, List.mem_range] at hc; exact hc.1
theorem catsTo_take (s : BitVec 64) (k : Nat) (h : k ≤ 64) : (cats s).take (catsTo s k).length = catsTo s k := by
  obtain ⟨d, hd⟩ : ∃ d, 64 = k + d := ⟨64 - k, by omega⟩
  have e : cats s = catsTo s k ++ ((List.range d).map (k + ·)).filter (fun i => s.getLsbD i) := by
    have hr : List.range 64 = List.range k ++ (List.range d).map (k + ·) := by rw [hd, List.range_add]
    unfold cats catsTo
    rw [hr, List.filter_append]
  rw [e, List.take_left']
  rfl
theorem catsTo_length (s : BitVec 64) (k : Nat) : (catsTo s k).length ≤ k := by
  unfold catsTo
  exact Nat.le_trans (List.length_filter_le _ _) (by simp)

theorem orAll_free (l : List Nat) (k : Nat) (hk : k < 64) (h : ∀ c ∈ l, c < k) : orAll l + (1#64 <<< k) = orAll l ||| (1#64 <<< k) := by
  refine BitVec.add_eq_or_of_and_eq_zero _ _ ?_
  apply BitVec.eq_of_getLsbD_eq
  intro i hi
  rw [BitVec.getLsbD_and, orAll_bit l (fun c hc => by have := h c hc; omega), one_shl_bit k i hk]
  by_cases e : i = k
  · subst e
    have : i ∉ l := fun hm => by have := h i hm; omega
    simp [this]
  · simp [e]
theorem add_pow (s : BitVec 64) (k : Nat) (hk : k < 64) : IntKind.u64.wrap ((s.toNat : Int) + ((2 ^ k : Nat) : Int)) = ((s + (1#64 <<< k)).toNat : Int) := by
  have e : ((2 ^ k : Nat) : Int) = ((1#64 <<< k).toNat : Int) := by
    rw [BitVec.toNat_shiftLeft, Nat.shiftLeft_eq, show (1#64).toNat = 1 from rfl, Nat.one_mul, Nat.mod_eq_of_lt (Nat.pow_lt_pow_right (by omega) hk)]
  rw [e]; exact add_bv _ _

theorem add_pow' (s : BitVec 64) (k : Nat) (hk : k < 64) : IntKind.u64.wrap ((s.toNat : Int) + 2 ^ k) = ((s + (1#64 <<< k)).toNat : Int) := by
  rw [show ((2 : Int) ^ k) = ((2 ^ k : Nat) : Int) by simp]; exact add_pow s k hk

theorem grab_take (t : BitVec 64) : ∀ k, k ≤ (cats (~~~t)).length → grab t k = orAll ((cats (~~~t)).take k)
  | 0, _ => by simp [grab, orAll]
  | k + 1, h => by
    have ih := grab_take t k (by omega)
    have hd := cats_grab t k (by omega)
    have hne := grab_free t k (by omega)
    rw [cats_cons hne] at hd
    have hlow : (cats (~~~t))[k]? = some (low (~~~(t ||| grab t k))) := by
      have := congrArg (fun l => l[0]?) hd
      simp only [List.getElem?_cons_zero, List.getElem?_drop, Nat.add_zero] at this
      exact this.symm
    have ht : (cats (~~~t)).take (k + 1) = (cats (~~~t)).take k ++ [low (~~~(t ||| grab t k))] := by
      rw [List.take_add_one, hlow]; rfl
    rw [ht, orAll_snoc, ← ih]
    rfl
theorem grab_disjoint (t : BitVec 64) (k : Nat) (h : k ≤ (cats (~~~t)).length) : t + grab t k = t ||| grab t k := by
  refine BitVec.add_eq_or_of_and_eq_zero _ _ ?_
  rw [grab_take t k h]
  apply BitVec.eq_of_getLsbD_eq
  intro i hi
  rw [BitVec.getLsbD_and, orAll_bit _ (fun c hc => cats_lt (List.mem_of_mem_take hc))]
  cases ht : t.getLsbD i
  · simp
  · have : i ∉ (cats (~~~t)).take k := fun hm => by
      have := mem_cats.1 (List.mem_of_mem_take hm)
      simp [ht] at this
    simp [this]

end Go.Proofs.YtegjlgdbipfpaaaGreatDoor
