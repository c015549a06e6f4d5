/-
  The reference's Take and Many.
-/
import Derived.Test.YtegjlgdbipfpaaaDoorRefA
namespace Go.Proofs.YtegjlgdbipfpaaaDoor
open Go Go.RowKit

/-- The categories of a set below k. -/
def catsTo (s : BitVec 64) (k : Nat) : List Nat := (List.range k).filter (fun i => s.getLsbD i)
theorem catsTo_all (s : BitVec 64) : catsTo s 64 = cats s := rfl
theorem catsTo_yes (s : BitVec 64) (k : Nat) (h : s.getLsbD k = true) : catsTo s (k + 1) = catsTo s k ++ [k] := by
  unfold catsTo; rw [List.range_succ, List.filter_append]; simp [h]
theorem catsTo_no (s : BitVec 64) (k : Nat) (h : s.getLsbD k = false) : catsTo s (k + 1) = catsTo s k := by
  unfold catsTo; rw [List.range_succ, List.filter_append]; simp [h]
theorem catsTo_lt (s : BitVec 64) (k : Nat) : ∀ c ∈ catsTo s k, c < k := by
  intro c hc; unfold catsTo at hc; rw [List.mem_filter, List.mem_range] at hc; exact hc.1
theorem catsTo_take (s : BitVec 64) (k : Nat) (h : k ≤ 64) : (cats s).take (catsTo s k).length = catsTo s k := by
  obtain ⟨d, hd⟩ : ∃ d, 64 = k + d := ⟨64 - k, by omega⟩
  have e : cats s = catsTo s k ++ ((List.range d).map (k + ·)).filter (fun i => s.getLsbD i) := by
    have hr : List.range 64 = List.range k ++ (List.range d).map (k + ·) := by rw [hd, List.range_add]
    unfold cats catsTo
    rw [hr, List.filter_append]
  rw [e, List.take_left']
  rfl
theorem catsTo_length (s : BitVec 64) (k : Nat) : (catsTo s k).length ≤ k := by
  unfold catsTo
  exact Nat.le_trans (List.length_filter_le _ _) (by simp)

theorem orAll_free (l : List Nat) (k : Nat) (hk : k < 64) (h : ∀ c ∈ l, c < k) : orAll l + (1#64 <<< k) = orAll l ||| (1#64 <<< k) := by
  refine BitVec.add_eq_or_of_and_eq_zero _ _ ?_
  apply BitVec.eq_of_getLsbD_eq
  intro i hi
  rw [BitVec.getLsbD_and, orAll_bit l (fun c hc => by have := h c hc; omega), one_shl_bit k i hk]
  by_cases e : i = k
  · subst e
    have : i ∉ l := fun hm => by have := h i hm; omega
    simp [this]
  · simp [e]
theorem add_pow (s : BitVec 64) (k : Nat) (hk : k < 64) : IntKind.u64.wrap ((s.toNat : Int) + ((2 ^ k : Nat) : Int)) = ((s + (1#64 <<< k)).toNat : Int) := by
  have e : ((2 ^ k : Nat) : Int) = ((1#64 <<< k).toNat : Int) := by
    rw [BitVec.toNat_shiftLeft, Nat.shiftLeft_eq, show (1#64).toNat = 1 from rfl, Nat.one_mul, Nat.mod_eq_of_lt (Nat.pow_lt_pow_right (by omega) hk)]
  rw [e]; exact add_bv _ _

theorem add_pow' (s : BitVec 64) (k : Nat) (hk : k < 64) : IntKind.u64.wrap ((s.toNat : Int) + 2 ^ k) = ((s + (1#64 <<< k)).toNat : Int) := by
  rw [show ((2 : Int) ^ k) = ((2 ^ k : Nat) : Int) by simp]; exact add_pow s k hk

theorem grab_take (t : BitVec 64) : ∀ k, k ≤ (cats (~~~t)).length → grab t k = orAll ((cats (~~~t)).take k)
  | 0, _ => by simp [grab, orAll]
  | k + 1, h => by
    have ih := grab_take t k (by omega)
    have hd := cats_grab t k (by omega)
    have hne := grab_free t k (by omega)
    rw [cats_cons hne] at hd
    have hlow : (cats (~~~t))[k]? = some (low (~~~(t ||| grab t k))) := by
      have := congrArg (fun l => l[0]?) hd
      simp only [List.getElem?_cons_zero, List.getElem?_drop, Nat.add_zero] at this
      exact this.symm
    have ht : (cats (~~~t)).take (k + 1) = (cats (~~~t)).take k ++ [low (~~~(t ||| grab t k))] := by
      rw [List.take_add_one, hlow]; rfl
    rw [ht, orAll_snoc, ← ih]
    rfl
theorem grab_disjoint (t : BitVec 64) (k : Nat) (h : k ≤ (cats (~~~t)).length) : t + grab t k = t ||| grab t k := by
  refine BitVec.add_eq_or_of_and_eq_zero _ _ ?_
  rw [grab_take t k h]
  apply BitVec.eq_of_getLsbD_eq
  intro i hi
  rw [BitVec.getLsbD_and, orAll_bit _ (fun c hc => cats_lt (List.mem_of_mem_take hc))]
  cases ht : t.getLsbD i
  · simp
  · have : i ∉ (cats (~~~t)).take k := fun hm => by
      have := mem_cats.1 (List.mem_of_mem_take hm)
      simp [ht] at this
    simp [this]

set_option maxHeartbeats 1000000 in
theorem ref_take (t : BitVec 64) (n : Nat) (w : World) :
    Calls Tryd.prog 34 #[U t, .int .i64 n] w fun e w' => w = w' ∧
      (n ≤ (cats (~~~t)).length ∧ e = .returned (.tuple #[U (grab t n), U (t ||| grab t n), .bool true]) ∨ (cats (~~~t)).length < n ∧ e = .returned (.tuple #[U 0#64, U t, .bool false])) := by
  obtain ⟨f, hf⟩ : ∃ f, ~~~t = f := ⟨_, rfl⟩
  have hbit : ∀ k : Nat, k < 64 → hasB t (k : Int) = !f.getLsbD k := by
    intro k hk
    rw [← hf]
    simp only [hasB, BitVec.getLsbD_not, hk, decide_true, Bool.true_and, Bool.not_not, Int.toNat_natCast]
    simp
  have hfin : ∀ k, k ≤ 64 → (catsTo f k).length = n → n ≤ (cats (~~~t)).length ∧ orAll (catsTo f k) = grab t n := by
    intro k hk hl
    rw [← hf] at hl ⊢
    have h1 := catsTo_take (~~~t) k hk
    have h2 : n ≤ (cats (~~~t)).length := by
      rw [← hl, ← h1, List.length_take]; omega
    exact ⟨h2, by rw [grab_take t n h2, ← hl, h1]⟩
  have HBIT := Lib.hid hbit
  have HFIN := Lib.hid hfin
  have HF := Lib.hid hf
  clear hbit hfin hf
  unfold U
  go_enter Tryd.func34, Tryd.ntmps34
  go_wp2
  go_loop [7, 8, 9] (fun u j c => ∃ k : Nat, k ≤ 64 ∧ c = .int .i64 k ∧ (catsTo f k).length ≤ n ∧ j = .int .i64 (catsTo f k).length ∧ u = U (orAll (catsTo f k))) (fun _ _ c => 64 - (intOf c).toNat)
  case atStart => exact ⟨0, by omega, rfl, by simp [catsTo], rfl, rfl⟩
  case round =>
    obtain ⟨k, hk, rfl, hle, rfl, rfl⟩ := hrel
    have hcl := catsTo_length f k
    by_cases hk64 : k < 64
    · by_cases hlt : (catsTo f k).length < n
      · have hh := ref_has t (k : Int) w
        rw [HBIT.out k hk64] at hh
        cases hb : f.getLsbD k
        · rw [hb] at hh
          have HH := Lib.hid hh
          have HS := Lib.hid (catsTo_no f k hb)
          clear hh hb
          unfold U at HH ⊢
          go_wp2_with (go_at_call 25; refine HH.out.mono ?_; rintro e w' ⟨rfl, rfl⟩)
          go_round
          case rel => exact ⟨k + 1, by omega, by go_num, by rw [HS.out]; omega, by rw [HS.out], by rw [HS.out]⟩
          case measure => simp [intOf]; omega
        · rw [hb] at hh
          have hsum := add_pow' (orAll (catsTo f k)) k hk64
          rw [orAll_free _ k hk64 (catsTo_lt f k), ← orAll_snoc] at hsum
          have HH := Lib.hid hh
          have HS := Lib.hid (catsTo_yes f k hb)
          have HSUM := Lib.hid hsum
          have hone := Lib.hid (one_any k hk64 w)
          clear hh hb hsum
          unfold U at HH ⊢
          go_wp2_with (first | (go_at_call 25; refine HH.out.mono ?_; rintro e w' ⟨rfl, rfl⟩) | (go_at_call 50; refine hone.out.mono ?_; rintro e w' ⟨rfl, rfl⟩))
          go_round
          case rel => exact ⟨k + 1, by omega, by go_num, by rw [HS.out]; simp; omega, by rw [HS.out]; simp, by rw [HS.out, HSUM.out]⟩
          case measure => simp [intOf]; omega
      · have hl : (catsTo f k).length = n := by omega
        have hq := HFIN.out k hk hl
        have hd : decide ((catsTo f k).length < n) = false := by simp; omega
        have hsum := grab_disjoint t n hq.1
        have hadd := add_bv t (grab t n)
        rw [hsum] at hadd
        have HQ := Lib.hid hq
        have HADD := Lib.hid hadd
        clear hsum hadd hq
        rw [HQ.out.2]
        unfold U
        go_wp2
        go_ret3
        refine ⟨rfl, .inl ⟨HQ.out.1, ?_⟩⟩
        rw [HADD.out]
        rfl
    · obtain rfl : k = 64 := by omega
      by_cases hlt : (catsTo f 64).length < n
      · have hd : decide ((catsTo f 64).length < n) = true := by simp; omega
        unfold U
        go_wp2
        go_ret3
        exact ⟨rfl, .inr ⟨by rw [HF.out, ← catsTo_all]; exact hlt, rfl⟩⟩
      · have hl : (catsTo f 64).length = n := by omega
        have hq := HFIN.out 64 hk hl
        have hd : decide ((catsTo f 64).length < n) = false := by simp; omega
        have hsum := grab_disjoint t n hq.1
        have hadd := add_bv t (grab t n)
        rw [hsum] at hadd
        have HQ := Lib.hid hq
        have HADD := Lib.hid hadd
        clear hsum hadd hq
        rw [HQ.out.2]
        unfold U
        go_wp2
        go_ret3
        refine ⟨rfl, .inl ⟨HQ.out.1, ?_⟩⟩
        rw [HADD.out]
        rfl

/-- The answer of Many. -/
theorem ref_many_range (t : BitVec 64) (n : Int) (w : World) (h : n < 0 ∨ 64 < n) :
    Calls Tryd.prog 36 #[U t, .int .i64 n] w fun e w' => e = .returned (.tuple #[U 0#64, U t, .int .i64 11]) ∧ w = w' := by
  rcases h with h | h
  · go_enter Tryd.func36, Tryd.ntmps36
    go_wp2
    go_ret3
    exact ⟨rfl, rfl⟩
  · have h0 : ¬ n < 0 := by omega
    go_enter Tryd.func36, Tryd.ntmps36
    go_wp2
    go_ret3
    exact ⟨rfl, rfl⟩
theorem ref_many_few (t : BitVec 64) (n : Nat) (w : World) (h1 : n ≤ 64) (h : (cats (~~~t)).length < n) :
    Calls Tryd.prog 36 #[U t, .int .i64 n] w fun e w' => e = .returned (.tuple #[U 0#64, U t, .int .i64 16]) ∧ w = w' := by
  have ht : Calls Tryd.prog 34 #[U t, .int .i64 n] w fun e w' => e = .returned (.tuple #[U 0#64, U t, .bool false]) ∧ w = w' :=
    (ref_take t n w).mono fun e w' ⟨hw, hr⟩ => by
      rcases hr with ⟨h2, _⟩ | ⟨_, he⟩
      · omega
      · exact ⟨he, hw⟩
  have HT := Lib.hid ht
  have h0 : ¬ (n : Int) < 0 := by omega
  have h3 : ¬ 64 < (n : Int) := by omega
  clear ht
  go_enter Tryd.func36, Tryd.ntmps36
  go_wp2_with (go_at_call 34; refine HT.out.mono ?_; rintro e w' ⟨rfl, rfl⟩)
  go_ret3
  exact ⟨rfl, rfl⟩
theorem ref_many_ok (t : BitVec 64) (n : Nat) (w : World) (h1 : n ≤ 64) (h : n ≤ (cats (~~~t)).length) :
    Calls Tryd.prog 36 #[U t, .int .i64 n] w fun e w' => e = .returned (.tuple #[U (grab t n), U (t ||| grab t n), .int .i64 0]) ∧ w = w' := by
  have ht : Calls Tryd.prog 34 #[U t, .int .i64 n] w fun e w' => e = .returned (.tuple #[U (grab t n), U (t ||| grab t n), .bool true]) ∧ w = w' :=
    (ref_take t n w).mono fun e w' ⟨hw, hr⟩ => by
      rcases hr with ⟨_, he⟩ | ⟨h2, _⟩
      · exact ⟨he, hw⟩
      · omega
  have HT := Lib.hid ht
  have h0 : ¬ (n : Int) < 0 := by omega
  have h3 : ¬ 64 < (n : Int) := by omega
  clear ht
  go_enter Tryd.func36, Tryd.ntmps36
  go_wp2_with (go_at_call 34; refine HT.out.mono ?_; rintro e w' ⟨rfl, rfl⟩)
  go_ret3
  exact ⟨rfl, rfl⟩
end Go.Proofs.YtegjlgdbipfpaaaDoor
