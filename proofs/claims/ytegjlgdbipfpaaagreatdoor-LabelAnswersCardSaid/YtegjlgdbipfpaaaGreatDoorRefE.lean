/-
  The reference's Of.
-/
import Derived.Test.YtegjlgdbipfpaaaGreatDoorRefD
namespace Go.Proofs.YtegjlgdbipfpaaaGreatDoor
open Go Go.RowKit

theorem or_free (s : BitVec 64) (k : Nat) (hk : k < 64) (h : s.getLsbD k = false) : s + (1#64 <<< k) = s ||| (1#64 <<< k) := by
  refine BitVec.add_eq_or_of_and_eq_zero _ _ ?_
  apply BitVec.eq_of_getLsbD_eq
  intro i hi
  rw [BitVec.getLsbD_and, one_shl_bit k i hk]
  by_cases e : i = k
  · subst e; simp [h]
  · simp [e]
theorem or_has (s : BitVec 64) (k : Nat) (hk : k < 64) (h : s.getLsbD k = true) : s ||| (1#64 <<< k) = s := by
  apply BitVec.eq_of_getLsbD_eq
  intro i hi
  rw [BitVec.getLsbD_or, one_shl_bit k i hk]
  by_cases e : i = k
  · subst e; simp [h]
  · simp [e]
theorem take_snoc (L : List Int) (k : Nat) (h : k < L.length) : L.take (k + 1) = L.take k ++ [L[k]?.getD 0] := by
  rw [List.take_add_one]; simp [h]

theorem ref_of_nil (a : Option Addr) (cap : Nat) (w : World) : Calls Tryz.prog 34 #[.slice a 0 cap] w fun e w' => e = .returned (ofRes []) ∧ w = w' := by
  have HR : Hid (ofRes [] = .tuple #[U 0#64, .bool true]) := rfl
  rw [HR.out]
  go_enter Tryz.func34, Tryz.ntmps34
  go_wp2
  go_loop [4, 5] (fun u i => i = .int .i64 0 ∧ u = .int .u64 0) (fun _ _ => 0)
  case atStart => exact ⟨rfl, rfl⟩
  case round =>
    obtain ⟨rfl, rfl⟩ := hrel
    go_wp2
    go_ret2
    exact ⟨rfl, rfl⟩

set_option maxHeartbeats 1000000 in
theorem ref_of_at (b off cap : Nat) (L : List Int) (w : World) (hc : ∀ j, j < L.length → w.cell? ⟨b, off + j, none⟩ = some (.int .i64 (L[j]?.getD 0)))
    (hm : L.length ≤ 9223372036854775807) :
    Calls Tryz.prog 34 #[.slice (some ⟨b, off, none⟩) L.length cap] w fun e w' => e = .returned (ofRes L) ∧ w = w' := by
  have HC := Lib.hid hc
  clear hc
  go_enter Tryz.func34, Tryz.ntmps34
  go_wp2
  go_loop [4, 5] (fun u i => ∃ k : Nat, k ≤ L.length ∧ i = .int .i64 k ∧ u = U (ofBits (L.take k)) ∧ Hid ((L.take k).all isCat = true)) (fun _ i => L.length - (intOf i).toNat)
  case atStart => exact ⟨0, Nat.zero_le _, rfl, rfl, Lib.hid (by simp)⟩
  case round =>
    obtain ⟨k, hk, rfl, rfl, hall⟩ := hrel
    by_cases hlt : k < L.length
    · have hck := HC.out k hlt
      have hT := take_snoc L k hlt
      obtain ⟨c, hcv⟩ : ∃ c, L[k]?.getD 0 = c := ⟨_, rfl⟩
      rw [hcv] at hck hT
      by_cases hcc : isCat c = true
      · obtain ⟨h0, h1⟩ := cat_toNat hcc
        have hall' : Hid ((L.take (k + 1)).all isCat = true) := Lib.hid (by rw [hT, List.all_append, hall.out]; simp [hcc])
        obtain ⟨x, hx⟩ : ∃ x, ofBits (L.take k) = x := ⟨_, rfl⟩
        have hn : ofBits (L.take (k + 1)) = x ||| (1#64 <<< c.toNat) := by rw [hT, ofBits_snoc, hx]
        rw [hx]
        obtain ⟨q, rfl⟩ := Int.eq_ofNat_of_zero_le h0
        rw [Int.toNat_natCast] at h1 hn
        have hh := ref_has x (q : Int) w
        rw [has_nat] at hh
        clear hx hT hcv hcc
        cases hb : x.getLsbD q
        · rw [hb] at hh
          have hsum := add_pow' x q h1
          rw [or_free x q h1 hb, ← hn] at hsum
          have HH := Lib.hid hh
          have HSUM := Lib.hid hsum
          have hone := Lib.hid (one_any q h1 w)
          clear hh hb hsum hn
          unfold U at HH ⊢
          go_wp2_with (first | (go_at_call 31; refine HH.out.mono ?_; rintro e w' ⟨rfl, rfl⟩) | (go_at_call 50; refine hone.out.mono ?_; rintro e w' ⟨rfl, rfl⟩))
          go_round
          case rel => exact ⟨k + 1, by omega, by go_num, by rw [HSUM.out], hall'⟩
          case measure => simp [intOf]; omega
        · rw [hb] at hh
          rw [or_has x q h1 hb] at hn
          have HH := Lib.hid hh
          have HN := Lib.hid hn
          clear hh hb hn
          unfold U at HH ⊢
          go_wp2_with (go_at_call 31; refine HH.out.mono ?_; rintro e w' ⟨rfl, rfl⟩)
          go_round
          case rel => exact ⟨k + 1, by omega, by go_num, by rw [HN.out], hall'⟩
          case measure => simp [intOf]; omega
      · have hr : Hid (ofRes L = .tuple #[U 0#64, .bool false]) := Lib.hid (by
          have : ¬ L.all isCat = true := fun h => hcc (by rw [← hcv]; exact List.all_eq_true.1 h _ (by simp [hlt]))
          rw [ofRes, if_neg this])
        have hout : c < 0 ∨ 63 < c := by simp [isCat] at hcc; omega
        unfold U
        clear hcc hT hcv
        rcases hout with h | h
        · go_wp2
          go_ret2
          exact ⟨congrArg Ending.returned hr.out.symm, rfl⟩
        · have h0 : ¬ c < 0 := by omega
          go_wp2
          go_ret2
          exact ⟨congrArg Ending.returned hr.out.symm, rfl⟩
    · obtain rfl : k = L.length := by omega
      have hr : Hid (ofRes L = .tuple #[U (ofBits L), .bool true]) := Lib.hid (by
        have := hall.out
        rw [List.take_length] at this
        rw [ofRes, if_pos this])
      rw [List.take_length]
      clear hall
      unfold U
      go_wp2
      go_ret2
      exact ⟨congrArg Ending.returned hr.out.symm, rfl⟩

theorem ref_of (v : Value) (L : List Int) (w : World) (hv : IntsAt w v L) (hm : L.length ≤ 9223372036854775807) :
    Calls Tryz.prog 34 #[v] w fun e w' => e = .returned (ofRes L) ∧ w = w' := by
  rcases hv with ⟨rfl, a, cap, rfl⟩ | ⟨b, off, cap, rfl, hc⟩
  · exact ref_of_nil a cap w
  · exact ref_of_at b off cap L w hc hm
end Go.Proofs.YtegjlgdbipfpaaaGreatDoor
