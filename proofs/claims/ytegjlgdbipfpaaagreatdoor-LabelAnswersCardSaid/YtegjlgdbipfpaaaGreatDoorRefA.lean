/-
  The reference's functions on sets: one, Has, Take, Many.
-/
import Derived.Test.YtegjlgdbipfpaaaGreatDoorLaw5
namespace Go.Proofs.YtegjlgdbipfpaaaGreatDoor
open Go Go.RowKit

theorem pow_step (k : Nat) (h : k < 63) : IntKind.u64.wrap (((2 ^ k : Nat) : Int) * 2) = ((2 ^ (k + 1) : Nat) : Int) := by
  have h1 : 2 ^ k < 2 ^ 63 := Nat.pow_lt_pow_right (by omega) h
  rw [IntKind.wrap_u64, Nat.pow_succ]
  omega

theorem one_any (c : Nat) (hc : c < 64) (w : World) : Calls Tryz.prog 50 #[.int .i64 c] w fun e w' => e = .returned (.int .u64 ((2 ^ c : Nat) : Int)) ∧ w = w' := by
  go_enter Tryz.func50, Tryz.ntmps50
  go_wp2
  go_loop [3, 4] (fun u i => ∃ k p : Nat, k ≤ c ∧ i = .int .i64 k ∧ u = .int .u64 (p : Int) ∧ Hid (p = 2 ^ k)) (fun _ i => c - (intOf i).toNat)
  case atStart => exact ⟨0, 1, Nat.zero_le _, rfl, rfl, rfl⟩
  case round =>
    obtain ⟨k, p, hk, rfl, rfl, hp⟩ := hrel
    by_cases hlt : k < c
    · have hs := pow_step k (by omega)
      have hq := hp.out
      rw [← hq] at hs
      have HS := Lib.hid hs
      have HQ : Hid ((2 ^ (k + 1) : Nat) = 2 ^ (k + 1)) := rfl
      clear hs hq
      go_wp2
      go_round
      case rel => exact ⟨k + 1, 2 ^ (k + 1), by omega, by go_num, by rw [HS.out], rfl⟩
      case measure => simp [intOf]; omega
    · obtain rfl : k = c := by omega
      go_wp2
      go_ret
      exact ⟨congrArg (fun z : Nat => Ending.returned (.int .u64 (z : Int))) hp.out, rfl⟩

theorem ref_has_bit (s : BitVec 64) (c : Nat) : ((s.toNat : Int) / ((2 ^ c : Nat) : Int) % 2 == 1) = s.getLsbD c := by
  rw [BitVec.getLsbD, Nat.testBit_eq_decide_div_mod_eq, Bool.eq_iff_iff]
  simp only [beq_iff_eq, decide_eq_true_eq]
  rw [show ((s.toNat : Int) / ((2 ^ c : Nat) : Int)) = ((s.toNat / 2 ^ c : Nat) : Int) by simp]
  omega

theorem ref_has_bit' (s : BitVec 64) (c : Nat) : ((IntKind.u64.wrap ((s.toNat : Int) / ((2 ^ c : Nat) : Int))).tmod 2 == 1) = s.getLsbD c := by
  have hd : (s.toNat : Int) / ((2 ^ c : Nat) : Int) = ((s.toNat / 2 ^ c : Nat) : Int) := by simp
  have hle : s.toNat / 2 ^ c ≤ s.toNat := Nat.div_le_self _ _
  have hlt := s.isLt
  have hb := ref_has_bit s c
  rw [hd] at hb ⊢
  rw [← hb]
  generalize s.toNat / 2 ^ c = q at *
  have hw : IntKind.u64.wrap (q : Int) = (q : Int) := by rw [IntKind.wrap_u64]; omega
  rw [hw, Int.tmod_eq_emod_of_nonneg (by omega)]

theorem ref_has (s : BitVec 64) (c : Int) (w : World) : Calls Tryz.prog 31 #[U s, .int .i64 c] w fun e w' => e = .returned (.bool (hasB s c)) ∧ w = w' := by
  by_cases h : 0 ≤ c ∧ c < 64
  · obtain ⟨h0, h1⟩ := h
    obtain ⟨k, rfl⟩ := Int.eq_ofNat_of_zero_le h0
    have e : hasB s (k : Int) = s.getLsbD k := by simp [hasB]
    have hr := ref_has_bit' s k
    have ho := one_any k (by omega) w
    have hpos : 1 ≤ 2 ^ k := Nat.two_pow_pos k
    obtain ⟨p, hp⟩ : ∃ p : Nat, 2 ^ k = p := ⟨_, rfl⟩
    rw [hp] at hr ho hpos
    have HR := Lib.hid (hr.trans e.symm)
    have HO := Lib.hid ho
    have hpos' : 1 ≤ (p : Int) := by omega
    have hsn : (0 : Int) ≤ (s.toNat : Int) := by omega
    clear hr ho hp e
    unfold U
    go_enter Tryz.func31, Tryz.ntmps31
    go_wp2_with (go_at_call 50; refine HO.out.mono ?_; rintro e w' ⟨rfl, rfl⟩)
    go_ret
    exact ⟨ret_of (congrArg Value.bool HR.out), rfl⟩
  · have e : hasB s c = false := by
      by_cases h0 : 0 ≤ c
      · have : s.getLsbD c.toNat = false := BitVec.getLsbD_of_ge _ _ (by omega)
        simp [hasB, this]
      · simp [hasB, h0]
    rw [e]
    by_cases h0 : c < 0
    · go_enter Tryz.func31, Tryz.ntmps31
      go_wp2
      go_ret
      exact ⟨rfl, rfl⟩
    · have h1 : 63 < c := by omega
      clear h
      go_enter Tryz.func31, Tryz.ntmps31
      go_wp2
      go_ret
      exact ⟨rfl, rfl⟩
end Go.Proofs.YtegjlgdbipfpaaaGreatDoor
