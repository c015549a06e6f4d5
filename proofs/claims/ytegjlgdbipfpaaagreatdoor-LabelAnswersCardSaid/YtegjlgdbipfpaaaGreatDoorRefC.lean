/-
  The reference's Minus and Within.
-/
import Derived.Test.YtegjlgdbipfpaaaGreatDoorRefB
namespace Go.Proofs.YtegjlgdbipfpaaaGreatDoor
open Go Go.RowKit

theorem has_nat (s : BitVec 64) (k : Nat) : hasB s (k : Int) = s.getLsbD k := by simp [hasB]

theorem ref_minus (a b : BitVec 64) (w : World) : Calls Tryz.prog 37 #[U a, U b] w fun e w' => e = .returned (U (a &&& ~~~b)) ∧ w = w' := by
  obtain ⟨f, hf⟩ : ∃ f, a &&& ~~~b = f := ⟨_, rfl⟩
  have hbit : ∀ k : Nat, k < 64 → f.getLsbD k = (a.getLsbD k && !b.getLsbD k) := by
    intro k hk
    rw [← hf, BitVec.getLsbD_and, BitVec.getLsbD_not]; simp [hk]
  have HBIT := Lib.hid hbit
  have HALL : Hid (orAll (catsTo f 64) = f) := orAll_cats f
  rw [hf]
  clear hbit hf
  unfold U
  go_enter Tryz.func37, Tryz.ntmps37
  go_wp2
  go_loop [5, 6] (fun u c => ∃ k : Nat, k ≤ 64 ∧ c = .int .i64 k ∧ u = U (orAll (catsTo f k))) (fun _ c => 64 - (intOf c).toNat)
  case atStart => exact ⟨0, by omega, rfl, rfl⟩
  case round =>
    obtain ⟨k, hk, rfl, rfl⟩ := hrel
    by_cases hk64 : k < 64
    · have ha := ref_has a (k : Int) w
      have hb := ref_has b (k : Int) w
      rw [has_nat] at ha hb
      have hfk := HBIT.out k hk64
      cases hak : a.getLsbD k
      · rw [hak] at ha hfk
        have HS := Lib.hid (catsTo_no f k (by simpa using hfk))
        have HA := Lib.hid ha
        clear ha hb hak hfk
        unfold U at HA ⊢
        go_wp2_with (go_at_call 31; refine HA.out.mono ?_; rintro e w' ⟨rfl, rfl⟩)
        go_round
        case rel => exact ⟨k + 1, by omega, by go_num, by rw [HS.out]⟩
        case measure => simp [intOf]; omega
      · cases hbk : b.getLsbD k
        · rw [hak] at ha hfk
          rw [hbk] at hb hfk
          have hsum := add_pow' (orAll (catsTo f k)) k hk64
          rw [orAll_free _ k hk64 (catsTo_lt f k), ← orAll_snoc] at hsum
          have HS := Lib.hid (catsTo_yes f k (by simpa using hfk))
          have HA := Lib.hid ha
          have HB := Lib.hid hb
          have HSUM := Lib.hid hsum
          have hone := Lib.hid (one_any k hk64 w)
          clear ha hb hak hbk hfk hsum
          unfold U at HA HB ⊢
          go_wp2_with fail
          refine HA.out.mono ?_
          rintro e w' ⟨rfl, rfl⟩
          go_wp2_with fail
          refine HB.out.mono ?_
          rintro e w' ⟨rfl, rfl⟩
          go_wp2_with (go_at_call 50; refine hone.out.mono ?_; rintro e w' ⟨rfl, rfl⟩)
          go_round
          case rel => exact ⟨k + 1, by omega, by go_num, by rw [HS.out, HSUM.out]⟩
          case measure => simp [intOf]; omega
        · rw [hak] at ha hfk
          rw [hbk] at hb hfk
          have HS := Lib.hid (catsTo_no f k (by simpa using hfk))
          have HA := Lib.hid ha
          have HB := Lib.hid hb
          clear ha hb hak hbk hfk
          unfold U at HA HB ⊢
          go_wp2_with fail
          refine HA.out.mono ?_
          rintro e w' ⟨rfl, rfl⟩
          go_wp2_with fail
          refine HB.out.mono ?_
          rintro e w' ⟨rfl, rfl⟩
          go_wp2
          go_round
          case rel => exact ⟨k + 1, by omega, by go_num, by rw [HS.out]⟩
          case measure => simp [intOf]; omega
    · obtain rfl : k = 64 := by omega
      unfold U
      go_wp2
      go_ret
      exact ⟨ret_of (congrArg (fun x : BitVec 64 => Value.int .u64 (x.toNat : Int)) HALL.out), rfl⟩

end Go.Proofs.YtegjlgdbipfpaaaGreatDoor
