/-
  Plain laws, no program in sight: what the model's operations on uint64 come to over BitVec 64. A set is a BitVec 64; its value is '.int .u64 (s.toNat)'.
-/
import Derived.Laws.BitsAllLaws
import Derived.Laws.Bits64b
import Derived.Lib.TrailingZeros
namespace Go.Proofs.YtegjlgdbipfpaaaGreatDoor
open Go

/-- A set as the program's value. -/
abbrev U (s : BitVec 64) : Value := .int .u64 (s.toNat : Int)

theorem two64 : (2 : Nat) ^ 64 = 18446744073709551616 := by decide

theorem and_bv (a b : BitVec 64) : bits .and .u64 (a.toNat : Int) (b.toNat : Int) = ((a &&& b).toNat : Int) := by
  rw [u64_and_nat _ _ a.isLt b.isLt, BitVec.toNat_and]
theorem or_bv (a b : BitVec 64) : bits .or .u64 (a.toNat : Int) (b.toNat : Int) = ((a ||| b).toNat : Int) := by
  rw [u64_or_nat _ _ a.isLt b.isLt, BitVec.toNat_or]
theorem andNot_bv (a b : BitVec 64) : bits .andNot .u64 (a.toNat : Int) (b.toNat : Int) = ((a &&& ~~~b).toNat : Int) := by
  rw [u64_andNot_nat _ _ a.isLt b.isLt, BitVec.toNat_and, BitVec.toNat_not]
theorem wrap_bv (n : Int) : IntKind.u64.wrap n = ((BitVec.ofInt 64 n).toNat : Int) := by
  rw [IntKind.wrap_u64, BitVec.toNat_ofInt]
  omega
theorem add_bv (a b : BitVec 64) : IntKind.u64.wrap ((a.toNat : Int) + (b.toNat : Int)) = ((a + b).toNat : Int) := by
  rw [IntKind.wrap_u64, BitVec.toNat_add]
  omega
theorem sub_bv (a b : BitVec 64) : IntKind.u64.wrap ((a.toNat : Int) - (b.toNat : Int)) = ((a - b).toNat : Int) := by
  rw [IntKind.wrap_u64, BitVec.toNat_sub]
  have := a.isLt; have := b.isLt
  omega
theorem sub_one_bv (a : BitVec 64) : IntKind.u64.wrap ((a.toNat : Int) - 1) = ((a - 1#64).toNat : Int) := sub_bv a 1#64
theorem shl_one_bv (n : Nat) : IntKind.u64.wrap (1 * 2 ^ n) = ((1#64 <<< n).toNat : Int) := by
  rw [IntKind.wrap_u64, BitVec.toNat_shiftLeft, Nat.shiftLeft_eq]
  simp
theorem zero_bv (a : BitVec 64) : ((a.toNat : Int) == 0) = (a == 0#64) := by
  rw [Bool.eq_iff_iff]
  simp only [beq_iff_eq]
  constructor
  · intro h; apply BitVec.eq_of_toNat_eq; simp; omega
  · intro h; subst h; rfl
theorem eq_bv (a b : BitVec 64) : ((a.toNat : Int) == (b.toNat : Int)) = (a == b) := by
  rw [Bool.eq_iff_iff]
  simp only [beq_iff_eq]
  constructor
  · intro h; apply BitVec.eq_of_toNat_eq; omega
  · intro h; subst h; rfl
theorem has_bv (s : BitVec 64) (c : Nat) : (bits .and .u64 ((s.toNat : Int) / 2 ^ c) 1 == 1) = s.getLsbD c := by
  have hs := s.isLt
  have hq : s.toNat / 2 ^ c ≤ s.toNat := Nat.div_le_self _ _
  have k := u64_and_nat (s.toNat / 2 ^ c) 1 (by omega) (by omega)
  rw [nat_mask1] at k
  have e : ((s.toNat : Int) / 2 ^ c) = ((s.toNat / 2 ^ c : Nat) : Int) := by simp
  rw [e, show (1 : Int) = ((1 : Nat) : Int) from rfl, k, BitVec.getLsbD, Nat.testBit_eq_decide_div_mod_eq, Bool.eq_iff_iff]
  simp only [beq_iff_eq, decide_eq_true_eq]
  omega

/-- A set's categories, rising. -/
def cats (s : BitVec 64) : List Nat := (List.range 64).filter (fun i => s.getLsbD i)

theorem mem_cats {s : BitVec 64} {i : Nat} : i ∈ cats s ↔ s.getLsbD i = true := by
  unfold cats
  rw [List.mem_filter, List.mem_range]
  constructor
  · exact fun h => h.2
  · intro h; exact ⟨BitVec.lt_of_getLsbD h, h⟩
theorem cats_lt {s : BitVec 64} {i : Nat} (h : i ∈ cats s) : i < 64 := BitVec.lt_of_getLsbD (mem_cats.1 h)
theorem cats_zero : cats 0#64 = [] := by decide
theorem cats_length (s : BitVec 64) : (cats s).length ≤ 64 := by
  unfold cats
  exact Nat.le_trans (List.length_filter_le _ _) (by simp)

/-- The lowest category of a set. -/
def low (s : BitVec 64) : Nat := Lib.ctz 64 s.toNat

theorem low_spec {s : BitVec 64} (h : s ≠ 0#64) : ∃ m, s.toNat = 2 ^ low s * (2 * m + 1) ∧ low s < 64 := by
  have hne : s.toNat ≠ 0 := fun e => h (BitVec.eq_of_toNat_eq (by simpa using e))
  have := Lib.ctzFrom_spec 64 s.toNat (by omega) s.isLt
  have e : low s = Lib.ctzFrom 64 s.toNat := by simp [low, Lib.ctz, hne]
  rw [e]; exact this
theorem low_lt {s : BitVec 64} (h : s ≠ 0#64) : low s < 64 := by obtain ⟨_, _, h⟩ := low_spec h; exact h

theorem bit_high (k m j : Nat) : (2 ^ k * (2 * m + 1)).testBit j = (decide (j = k) || (decide (k < j) && (m.testBit (j - k - 1)))) := by
  rw [Nat.testBit_two_pow_mul]
  by_cases h1 : j < k
  · simp [show ¬ k ≤ j by omega, show j ≠ k by omega, show ¬ k < j by omega]
  · by_cases h2 : j = k
    · subst h2; simp
    · obtain ⟨d, rfl⟩ : ∃ d, j = k + 1 + d := ⟨j - k - 1, by omega⟩
      simp only [show k + 1 + d - k = d + 1 by omega, Nat.testBit_succ, show (2 * m + 1) / 2 = m by omega]
      simp [show k ≤ k + 1 + d by omega, show k + 1 + d ≠ k by omega, show k < k + 1 + d by omega]

theorem bit_low (k m j : Nat) : (2 ^ k * (2 * m + 1) - 1).testBit j = (decide (j < k) || (decide (k < j) && (m.testBit (j - k - 1)))) := by
  have e : 2 ^ k * (2 * m + 1) - 1 = 2 ^ (k + 1) * m + (2 ^ k - 1) := by
    have := Nat.two_pow_pos k
    rw [Nat.mul_add, Nat.pow_succ, Nat.mul_one, show 2 ^ k * 2 * m = 2 ^ k * (2 * m) by rw [Nat.mul_assoc]]
    omega
  rw [e, Nat.testBit_two_pow_mul_add _ (by have := Nat.two_pow_pos k; rw [Nat.pow_succ]; omega)]
  by_cases h1 : j < k
  · simp [show j < k + 1 by omega, h1, Nat.testBit_two_pow_sub_one]
  · by_cases h2 : j = k
    · subst h2; simp [Nat.testBit_two_pow_sub_one]
    · simp [show ¬ j < k + 1 by omega, h1, show k < j by omega, show j - (k + 1) = j - k - 1 by omega]

/-- The set without its lowest category. -/
def rest (s : BitVec 64) : BitVec 64 := s &&& (s - 1#64)

theorem rest_bit {s : BitVec 64} (h : s ≠ 0#64) (j : Nat) : (rest s).getLsbD j = (s.getLsbD j && !decide (j = low s)) := by
  obtain ⟨m, hm, hl⟩ := low_spec h
  have hp : 0 < s.toNat := by rw [hm]; exact Nat.mul_pos (Nat.two_pow_pos _) (by omega)
  have e1 : (s - 1#64).toNat = s.toNat - 1 := by
    rw [BitVec.toNat_sub, show (1#64).toNat = 1 from rfl]
    have := s.isLt
    omega
  unfold rest
  rw [BitVec.getLsbD_and]
  unfold BitVec.getLsbD
  rw [e1, hm, bit_high, bit_low]
  by_cases h1 : j < low s
  · simp [h1, show j ≠ low s by omega, show ¬ low s < j by omega]
  · by_cases h2 : j = low s
    · simp [h2]
    · simp [h1, h2]

theorem low_bit {s : BitVec 64} (h : s ≠ 0#64) : s.getLsbD (low s) = true := by
  obtain ⟨m, hm, hl⟩ := low_spec h
  unfold BitVec.getLsbD
  rw [hm, bit_high]; simp
theorem low_least {s : BitVec 64} (h : s ≠ 0#64) {j : Nat} (hj : j < low s) : s.getLsbD j = false := by
  obtain ⟨m, hm, hl⟩ := low_spec h
  unfold BitVec.getLsbD
  rw [hm, bit_high]; simp [show j ≠ low s by omega, show ¬ low s < j by omega]

theorem filter_cons_least (p : Nat → Bool) (n k : Nat) (hk : k < n) (hp : p k = true) (hl : ∀ j, j < k → p j = false) :
    (List.range n).filter p = k :: (List.range n).filter (fun j => p j && !decide (j = k)) := by
  induction n with
  | zero => omega
  | succ n ih =>
    rw [List.range_succ, List.filter_append, List.filter_append]
    by_cases e : k = n
    · subst e
      have h1 : (List.range k).filter p = [] := by
        rw [List.filter_eq_nil_iff]; intro a ha; rw [List.mem_range] at ha; simp [hl a ha]
      have h2 : (List.range k).filter (fun j => p j && !decide (j = k)) = [] := by
        rw [List.filter_eq_nil_iff]; intro a ha; rw [List.mem_range] at ha; simp [hl a ha]
      rw [h1, h2]; simp [hp]
    · rw [ih (by omega)]
      simp [List.filter_cons, show n ≠ k by omega]

/-- A set that isn't empty: its lowest category, and the others. -/
theorem cats_cons {s : BitVec 64} (h : s ≠ 0#64) : cats s = low s :: cats (rest s) := by
  unfold cats
  rw [filter_cons_least _ 64 (low s) (low_lt h) (low_bit h) (fun j hj => low_least h hj)]
  congr 1
  apply List.filter_congr
  intro j _
  rw [rest_bit h]

theorem cats_eq_nil {s : BitVec 64} : cats s = [] ↔ s = 0#64 := by
  constructor
  · intro h
    by_cases e : s = 0#64
    · exact e
    · rw [cats_cons e] at h; cases h
  · rintro rfl; exact cats_zero

theorem cats_inj {a b : BitVec 64} (h : cats a = cats b) : a = b := by
  apply BitVec.eq_of_getLsbD_eq
  intro i _
  rw [Bool.eq_iff_iff, ← mem_cats, ← mem_cats, h]

end Go.Proofs.YtegjlgdbipfpaaaGreatDoor
