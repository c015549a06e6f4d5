/-
  bits.OnesCount64; the pool: NewPool, Taken, Many, Take.
-/
import Derived.Test.YtegjlgdbipfpaaaGreatDoorPop
import Derived.Test.YtegjlgdbipfpaaaGreatDoorOf
namespace Go.Proofs.YtegjlgdbipfpaaaGreatDoor
open Go Go.RowKit

theorem rep85 : rep 85 8 = 6148914691236517205 := by decide +kernel
theorem rep51 : rep 51 8 = 3689348814741910323 := by decide +kernel
theorem rep15 : rep 15 8 = 1085102592571150095 := by decide +kernel

theorem e_s1 (n : Nat) (h : n < 18446744073709551616) : IntKind.u64.wrap (bits .and .u64 ((n : Int) / 2) 6148914691236517205 + bits .and .u64 (n : Int) 6148914691236517205) = ((s1 (rep 85 8) n : Nat) : Int) := by
  have k1 := u64_and_nat (n / 2) 6148914691236517205 (by omega) (by omega)
  have k2 := u64_and_nat n 6148914691236517205 h (by omega)
  have l1 : n / 2 &&& 6148914691236517205 ≤ 6148914691236517205 := Nat.and_le_right
  have l2 : n &&& 6148914691236517205 ≤ 6148914691236517205 := Nat.and_le_right
  rw [show ((n : Int) / 2) = ((n / 2 : Nat) : Int) by omega, show (6148914691236517205 : Int) = ((6148914691236517205 : Nat) : Int) from rfl, k1, k2, IntKind.wrap_u64, rep85, s1]
  omega
theorem s1_lt (n : Nat) : s1 (rep 85 8) n < 18446744073709551616 := by
  have l1 : n / 2 &&& rep 85 8 ≤ rep 85 8 := Nat.and_le_right
  have l2 : n &&& rep 85 8 ≤ rep 85 8 := Nat.and_le_right
  rw [rep85] at l1 l2
  rw [s1, rep85]
  omega
theorem e_s2 (n : Nat) (h : n < 18446744073709551616) : IntKind.u64.wrap (bits .and .u64 ((n : Int) / 4) 3689348814741910323 + bits .and .u64 (n : Int) 3689348814741910323) = ((s2 (rep 51 8) n : Nat) : Int) := by
  have k1 := u64_and_nat (n / 4) 3689348814741910323 (by omega) (by omega)
  have k2 := u64_and_nat n 3689348814741910323 h (by omega)
  have l1 : n / 4 &&& 3689348814741910323 ≤ 3689348814741910323 := Nat.and_le_right
  have l2 : n &&& 3689348814741910323 ≤ 3689348814741910323 := Nat.and_le_right
  rw [show ((n : Int) / 4) = ((n / 4 : Nat) : Int) by omega, show (3689348814741910323 : Int) = ((3689348814741910323 : Nat) : Int) from rfl, k1, k2, IntKind.wrap_u64, rep51, s2]
  omega
theorem s2_lt (n : Nat) : s2 (rep 51 8) n ≤ 7378697629483820646 := by
  have l1 : n / 4 &&& rep 51 8 ≤ rep 51 8 := Nat.and_le_right
  have l2 : n &&& rep 51 8 ≤ rep 51 8 := Nat.and_le_right
  rw [rep51] at l1 l2
  rw [s2, rep51]
  omega
theorem e_s3 (n : Nat) (h : n ≤ 7378697629483820646) : bits .and .u64 (IntKind.u64.wrap ((n : Int) / 16 + (n : Int))) 1085102592571150095 = ((s3 (rep 15 8) n : Nat) : Int) := by
  have e : IntKind.u64.wrap ((n : Int) / 16 + (n : Int)) = ((n / 16 + n : Nat) : Int) := by rw [IntKind.wrap_u64]; omega
  rw [e, rep15, s3]
  exact u64_and_nat (n / 16 + n) 1085102592571150095 (by omega) (by omega)
theorem e_fold (n d : Nat) : IntKind.u64.wrap ((n : Int) + (n : Int) / (d : Int)) = ((fold n d : Nat) : Int) := by
  rw [IntKind.wrap_u64, fold, m64]
  simp
theorem e_127 (n : Nat) (h : n < 18446744073709551616) : bits .and .i64 (wrap64 (n : Int)) 127 = ((n % 128 : Nat) : Int) := by
  have h1 : (BitVec.ofInt 64 (wrap64 (n : Int))).toNat = n := by
    rw [BitVec.toNat_ofInt]; unfold wrap64; omega
  show IntKind.i64.wrap ((BitVec.ofInt 64 (wrap64 (n : Int)) &&& BitVec.ofInt 64 127).toNat : Int) = _
  rw [BitVec.toNat_and, h1, show (BitVec.ofInt 64 127).toNat = 127 by decide, nat_mask7]
  simp [IntKind.wrap, IntKind.bits, IntKind.signed]
  omega
theorem fold_lt (n d : Nat) : fold n d < 18446744073709551616 := by unfold fold m64; omega

theorem e_ones (x : BitVec 64) {v : Int} (h : v = bits .and .i64 (wrap64 ((fold (fold (fold (s123 8 x.toNat) 256) 65536) 4294967296 : Nat) : Int)) 127) : v = ((cats x).length : Int) := by
  rw [h, e_127 _ (fold_lt _ _)]
  have := ones_pop x.toNat x.isLt
  unfold ones at this
  rw [this, pop_cats]

/-- So many of the least free categories, as the program takes them. -/
def grab (t : BitVec 64) : Nat → BitVec 64
  | 0 => 0#64
  | k + 1 => grab t k ||| (1#64 <<< low (~~~(t ||| grab t k)))

theorem xnot_bv (a : BitVec 64) : bits .xor .u64 IntKind.u64.max (a.toNat : Int) = ((~~~a).toNat : Int) := by
  have k := u64_xor_nat 18446744073709551615 a.toNat (by omega) a.isLt
  have e : IntKind.u64.max = ((18446744073709551615 : Nat) : Int) := by decide
  have e2 : (18446744073709551615 ^^^ a.toNat : Nat) = (BitVec.allOnes 64 ^^^ a).toNat := by rw [BitVec.toNat_xor]; rfl
  rw [e, k, e2, BitVec.allOnes_xor]

theorem one_shl_bit (k j : Nat) (hk : k < 64) : (1#64 <<< k).getLsbD j = decide (j = k) := by
  by_cases h : j < 64
  · rw [BitVec.getLsbD_shiftLeft, Bool.eq_iff_iff]
    simp [h, BitVec.getLsbD_one]
    omega
  · rw [BitVec.getLsbD_of_ge _ _ (by omega)]
    simp; omega

theorem free_step (t o : BitVec 64) (h : ~~~(t ||| o) ≠ 0#64) : ~~~(t ||| (o ||| (1#64 <<< low (~~~(t ||| o))))) = rest (~~~(t ||| o)) := by
  apply BitVec.eq_of_getLsbD_eq
  intro i hi
  rw [rest_bit h]
  simp only [BitVec.getLsbD_not, BitVec.getLsbD_or, one_shl_bit _ _ (low_lt h)]
  cases t.getLsbD i <;> cases o.getLsbD i <;> simp [hi]

theorem cats_grab (t : BitVec 64) : ∀ k, k ≤ (cats (~~~t)).length → cats (~~~(t ||| grab t k)) = (cats (~~~t)).drop k
  | 0, _ => by simp [grab]
  | k + 1, h => by
    have ih := cats_grab t k (by omega)
    have hne : ~~~(t ||| grab t k) ≠ 0#64 := by
      intro e
      rw [e, cats_zero] at ih
      have := congrArg List.length ih
      simp at this; omega
    rw [grab, free_step _ _ hne]
    rw [cats_cons hne] at ih
    have := congrArg List.tail ih
    simpa using this
theorem grab_free (t : BitVec 64) (k : Nat) (h : k < (cats (~~~t)).length) : ~~~(t ||| grab t k) ≠ 0#64 := by
  have ih := cats_grab t k (by omega)
  intro e
  rw [e, cats_zero] at ih
  have := congrArg List.length ih
  simp at this; omega

theorem grownBy_refl (w : World) (r : Option Nat) : w.grownBy w r := ⟨rfl, rfl, rfl, Nat.le_refl _, fun _ _ _ => rfl⟩

theorem one_shl_ne (k : Nat) (hk : k < 64) : (1#64 <<< k) ≠ 0#64 := by
  intro e
  have := one_shl_bit k k hk
  rw [e] at this
  simp at this
theorem low_one_shl (k : Nat) (hk : k < 64) : low (1#64 <<< k) = k := by
  have h := low_bit (one_shl_ne k hk)
  rw [one_shl_bit k _ hk] at h
  simpa using h

end Go.Proofs.YtegjlgdbipfpaaaGreatDoor
