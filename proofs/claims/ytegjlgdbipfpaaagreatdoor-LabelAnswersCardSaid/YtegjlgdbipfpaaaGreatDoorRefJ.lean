/-
  The reference's Read.
-/
import Derived.Test.YtegjlgdbipfpaaaGreatDoorRefI
namespace Go.Proofs.YtegjlgdbipfpaaaGreatDoor
open Go Go.RowKit

def readPost (t : List UInt8) (e : Ending) : Prop :=
  (∃ s, showL s = t ∧ e = .returned (.tuple #[U s, .bool true])) ∨ ((∀ s, showL s ≠ t) ∧ e = .returned (.tuple #[U 0#64, .bool false]))

theorem run_next {t : List UInt8} {k : Nat} {st st' : BitVec 64 × Int × Int} {c : UInt8} (hc : (t ++ [44])[k]? = some c)
    (hr : runR (0#64, -1, -1) ((t ++ [44]).take k) = some st) (hs : stepR st c = some st') : runR (0#64, -1, -1) ((t ++ [44]).take (k + 1)) = some st' := by
  rw [List.take_add_one, hc]
  exact (runR_snoc _ c _ _ hr).trans hs
theorem run_stop {t : List UInt8} {k : Nat} {st : BitVec 64 × Int × Int} {c : UInt8} (hc : (t ++ [44])[k]? = some c)
    (hr : runR (0#64, -1, -1) ((t ++ [44]).take k) = some st) (hs : stepR st c = none) : runR (0#64, -1, -1) (t ++ [44]) = none := by
  have h1 : (t ++ [44]).take (k + 1) = (t ++ [44]).take k ++ [c] := by rw [List.take_add_one, hc]; rfl
  have h2 := List.take_append_drop (k + 1) (t ++ [44])
  rw [← h2, runR_append, h1, runR_snoc _ c _ _ hr, hs]
  rfl
theorem only_none {t : List UInt8} (h : ∀ s, s ≠ 0#64 → showL s ≠ t) : readPost t (.returned (.tuple #[U 0#64, .bool (t == [110, 111, 110, 101])])) := by
  by_cases e : t = [110, 111, 110, 101]
  · subst e
    exact .inl ⟨0#64, show_zero, rfl⟩
  · have : (t == [110, 111, 110, 101]) = false := by rw [beq_eq_false_iff_ne]; exact e
    rw [this]
    refine .inr ⟨fun s => ?_, rfl⟩
    by_cases hs : s = 0#64
    · subst hs; rw [show_zero]; exact fun h' => e h'.symm
    · exact h s hs
theorem only_stop {t : List UInt8} (h : runR (0#64, -1, -1) (t ++ [44]) = none) : readPost t (.returned (.tuple #[U 0#64, .bool (t == [110, 111, 110, 101])])) :=
  only_none fun s hs e => by
    have := runR_show hs
    rw [e, h] at this
    cases this
theorem only_other {t : List UInt8} {x : BitVec 64} {p q : Int} (h : runR (0#64, -1, -1) (t ++ [44]) = some (x, p, q)) (hx : showL x ≠ t) :
    readPost t (.returned (.tuple #[U 0#64, .bool (t == [110, 111, 110, 101])])) :=
  only_none fun s hs e => by
    have h2 := runR_show hs
    rw [e, h] at h2
    simp only [Option.some.injEq, Prod.mk.injEq] at h2
    rw [← h2.1] at e
    exact hx e
theorem at_text {t : List UInt8} {k : Nat} (h : k < t.length) : (t ++ [44])[k]? = some (t[k]'h) := by
  rw [List.getElem?_append_left h, List.getElem?_eq_getElem h]
theorem at_end (t : List UInt8) : (t ++ [44])[t.length]? = some 44 := by simp

theorem run_bit (x : BitVec 64) (F m : Nat) (h : F ≤ m) : (x ||| orAll (List.range' F (m - F))) ||| (1#64 <<< m) = x ||| orAll (List.range' F (m + 1 - F)) := by
  rw [show m + 1 - F = (m - F) + 1 by omega, List.range'_concat, orAll_snoc, Nat.one_mul, show F + (m - F) = m by omega, BitVec.or_assoc]
theorem step_comma (x : BitVec 64) (P F : Nat) (q : Int) (c : UInt8) (hc : (c.toNat : Int) = 44) (hF : (if q < 0 then (P : Int) else q) = (F : Int)) :
    stepR (x, (P : Int), q) c = some (x ||| runBits F P, -1, -1) := by
  unfold stepR
  rw [if_neg (by omega), if_neg (by omega), if_pos (show c.toNat = 44 ∧ (0 : Int) ≤ P by omega)]
  simp only [hF, Int.toNat_natCast]

set_option maxRecDepth 100000 in
set_option maxHeartbeats 8000000 in
theorem ref_read_in (t : List UInt8) (ht : t.length ≤ 4294967280) (w : World) :
    Calls Tryz.prog 30 #[Str t] w fun e w' => readPost t e ∧ Below w.heap.size w w' := by
  obtain ⟨n, hn⟩ : ∃ n, t.length = n := ⟨_, rfl⟩
  have HN := Lib.hid hn
  go_enter Tryz.func30, Tryz.ntmps30
  go_wp2_with fail
  go_loop [4, 5, 6, 7] (fun s m f i => ∃ (k : Nat) (x : BitVec 64) (p q : Int), k ≤ n + 1 ∧ i = .int .i64 k ∧ s = U x ∧ m = .int .i64 p ∧ f = .int .i64 q ∧
      (-1 ≤ p ∧ p ≤ 63 ∧ -1 ≤ q ∧ q ≤ 63) ∧ Hid (runR (0#64, -1, -1) ((t ++ [44]).take k) = some (x, p, q))) (fun _ _ _ i => n + 1 - (intOf i).toNat)
  case atStart => exact ⟨0, 0#64, -1, -1, by omega, rfl, rfl, rfl, rfl, by omega, rfl⟩
  case round =>
    obtain ⟨k, x, p, q, hk, rfl, rfl, rfl, rfl, hpq, hrun⟩ := hrel
    by_cases hlt : k < n
    · have hle : k ≤ n := by omega
      have hat := at_text (t := t) (k := k) (by omega)
      have hidx : ∀ h, (ByteArray.mk t.toArray)[k]'h = t[k]'(by omega) := fun _ => rfl
      obtain ⟨c, hc⟩ : ∃ c, t[k]'(by omega) = c := ⟨_, rfl⟩
      rw [hc] at hat hidx
      have HAT := Lib.hid hat
      have HIDX := Lib.hid hidx
      clear hat hidx hc
      go_wp2_with (go_at_call 49; refine (ref_only t _).mono ?_; rintro e w' ⟨rfl, rfl⟩)
      all_goals simp only [HIDX.out] at *
      all_goals first
        | (go_ret2
           refine ⟨only_stop (run_stop HAT.out hrun.out ?_), Below.refl _ _⟩
           unfold stepR
           dsimp only
           repeat' split
           all_goals first | rfl | (exfalso; omega))
        | (go_round
           case rel => 
             refine ⟨k + 1, _, _, _, by omega, by go_num, rfl, rfl, rfl, by omega, Lib.hid (run_next HAT.out hrun.out ?_)⟩
             unfold stepR
             dsimp only
             repeat' split
             all_goals first | rfl | (exfalso; omega)
           case measure => simp [intOf]; omega)
        | skip
      all_goals
        have hp0 : 0 ≤ p := by assumption
        obtain ⟨P, rfl⟩ := Int.eq_ofNat_of_zero_le hp0
      · have hq : q < 0 := by assumption
        have hst := step_comma x P P q c (by omega) (by rw [if_pos hq])
        go_loop [4, 9] (fun s j => ∃ (m : Nat) (y : BitVec 64), P ≤ m ∧ m ≤ max P (P + 1) ∧ j = .int .i64 m ∧ s = U y ∧ Hid (y = x ||| orAll (List.range' P (m - P)))) (fun _ j => P + 1 - (intOf j).toNat)
        case atStart => exact ⟨P, x, by omega, by omega, rfl, rfl, Lib.hid (by simp [orAll])⟩
        case round =>
          obtain ⟨m, y, hm1, hm2, rfl, rfl, hy⟩ := hrel
          by_cases hmp : m ≤ P
          · have hm64 : m < 64 := by omega
            have hh := ref_has y (m : Int) w
            rw [has_nat] at hh
            have hnext := run_bit x P m hm1
            rw [← hy.out] at hnext
            cases hb : y.getLsbD m
            · rw [hb] at hh
              have hsum := add_pow' y m hm64
              rw [or_free y m hm64 hb] at hsum
              have HH := Lib.hid hh
              have HSUM := Lib.hid hsum
              have hone := Lib.hid (one_any m hm64 w)
              have HNX := Lib.hid hnext
              clear hh hb hsum hnext hy
              unfold U at HH ⊢
              go_wp2_with (first | (go_at_call 31; refine HH.out.mono ?_; rintro e w' ⟨rfl, rfl⟩) | (go_at_call 50; refine hone.out.mono ?_; rintro e w' ⟨rfl, rfl⟩))
              go_round
              case rel => exact ⟨m + 1, _, by omega, by omega, by go_num, by rw [HSUM.out], HNX⟩
              case measure => simp [intOf]; omega
            · rw [hb] at hh
              rw [or_has y m hm64 hb] at hnext
              have HH := Lib.hid hh
              have HNX := Lib.hid hnext
              clear hh hb hnext hy
              unfold U at HH ⊢
              go_wp2_with (go_at_call 31; refine HH.out.mono ?_; rintro e w' ⟨rfl, rfl⟩)
              go_round
              case rel => exact ⟨m + 1, y, by omega, by omega, by go_num, rfl, HNX⟩
              case measure => simp [intOf]; omega
          · have hz : m - P = P + 1 - P := by omega
            have HZ := Lib.hid hy.out
            rw [hz] at HZ
            have HR := Lib.hid (run_next HAT.out hrun.out (hst.trans (congrArg (fun z => some (z, (-1 : Int), (-1 : Int))) HZ.out.symm)))
            clear hst hy hz
            unfold U
            go_wp2
            go_round
            case rel => exact ⟨k + 1, y, -1, -1, by omega, by go_num, rfl, rfl, rfl, by omega, HR⟩
            case measure => simp [intOf]; omega
      · have hq : 0 ≤ q := by assumption
        obtain ⟨Q, rfl⟩ := Int.eq_ofNat_of_zero_le hq
        have hst := step_comma x P Q Q c (by omega) (by rw [if_neg (by omega)])
        go_loop [4, 9] (fun s j => ∃ (m : Nat) (y : BitVec 64), Q ≤ m ∧ m ≤ max Q (P + 1) ∧ j = .int .i64 m ∧ s = U y ∧ Hid (y = x ||| orAll (List.range' Q (m - Q)))) (fun _ j => P + 1 - (intOf j).toNat)
        case atStart => exact ⟨Q, x, by omega, by omega, rfl, rfl, Lib.hid (by simp [orAll])⟩
        case round =>
          obtain ⟨m, y, hm1, hm2, rfl, rfl, hy⟩ := hrel
          by_cases hmp : m ≤ P
          · have hm64 : m < 64 := by omega
            have hh := ref_has y (m : Int) w
            rw [has_nat] at hh
            have hnext := run_bit x Q m hm1
            rw [← hy.out] at hnext
            cases hb : y.getLsbD m
            · rw [hb] at hh
              have hsum := add_pow' y m hm64
              rw [or_free y m hm64 hb] at hsum
              have HH := Lib.hid hh
              have HSUM := Lib.hid hsum
              have hone := Lib.hid (one_any m hm64 w)
              have HNX := Lib.hid hnext
              clear hh hb hsum hnext hy
              unfold U at HH ⊢
              go_wp2_with (first | (go_at_call 31; refine HH.out.mono ?_; rintro e w' ⟨rfl, rfl⟩) | (go_at_call 50; refine hone.out.mono ?_; rintro e w' ⟨rfl, rfl⟩))
              go_round
              case rel => exact ⟨m + 1, _, by omega, by omega, by go_num, by rw [HSUM.out], HNX⟩
              case measure => simp [intOf]; omega
            · rw [hb] at hh
              rw [or_has y m hm64 hb] at hnext
              have HH := Lib.hid hh
              have HNX := Lib.hid hnext
              clear hh hb hnext hy
              unfold U at HH ⊢
              go_wp2_with (go_at_call 31; refine HH.out.mono ?_; rintro e w' ⟨rfl, rfl⟩)
              go_round
              case rel => exact ⟨m + 1, y, by omega, by omega, by go_num, rfl, HNX⟩
              case measure => simp [intOf]; omega
          · have hz : m - Q = P + 1 - Q := by omega
            have HZ := Lib.hid hy.out
            rw [hz] at HZ
            have HR := Lib.hid (run_next HAT.out hrun.out (hst.trans (congrArg (fun z => some (z, (-1 : Int), (-1 : Int))) HZ.out.symm)))
            clear hst hy hz
            unfold U
            go_wp2
            go_round
            case rel => exact ⟨k + 1, y, -1, -1, by omega, by go_num, rfl, rfl, rfl, by omega, HR⟩
            case measure => simp [intOf]; omega
    · by_cases hkn : k = n
      · subst hkn
        have HAT : Hid ((t ++ [44])[k]? = some 44) := Lib.hid (by rw [← hn]; exact at_end t)
        have HC44 : Hid ((((44 : UInt8).toNat : Nat) : Int) = 44) := rfl
        go_wp2_with (go_at_call 49; refine (ref_only t _).mono ?_; rintro e w' ⟨rfl, rfl⟩)
        all_goals first
          | (go_ret2
             refine ⟨only_stop (run_stop HAT.out hrun.out ?_), Below.refl _ _⟩
             unfold stepR
             dsimp only
             rw [if_neg (by decide), if_neg (fun h => absurd h.1 (by decide)), if_neg (by omega)])
          | skip
        all_goals
          have hp0 : 0 ≤ p := by assumption
          obtain ⟨P, rfl⟩ := Int.eq_ofNat_of_zero_le hp0
        · have hq : q < 0 := by assumption
          have hst := step_comma x P P q 44 HC44.out (by rw [if_pos hq])
          go_loop [4, 9] (fun s j => ∃ (m : Nat) (y : BitVec 64), P ≤ m ∧ m ≤ max P (P + 1) ∧ j = .int .i64 m ∧ s = U y ∧ Hid (y = x ||| orAll (List.range' P (m - P)))) (fun _ j => P + 1 - (intOf j).toNat)
          case atStart => exact ⟨P, x, by omega, by omega, rfl, rfl, Lib.hid (by simp [orAll])⟩
          case round =>
            obtain ⟨m, y, hm1, hm2, rfl, rfl, hy⟩ := hrel
            by_cases hmp : m ≤ P
            · have hm64 : m < 64 := by omega
              have hh := ref_has y (m : Int) w
              rw [has_nat] at hh
              have hnext := run_bit x P m hm1
              rw [← hy.out] at hnext
              cases hb : y.getLsbD m
              · rw [hb] at hh
                have hsum := add_pow' y m hm64
                rw [or_free y m hm64 hb] at hsum
                have HH := Lib.hid hh
                have HSUM := Lib.hid hsum
                have hone := Lib.hid (one_any m hm64 w)
                have HNX := Lib.hid hnext
                clear hh hb hsum hnext hy
                unfold U at HH ⊢
                go_wp2_with (first | (go_at_call 31; refine HH.out.mono ?_; rintro e w' ⟨rfl, rfl⟩) | (go_at_call 50; refine hone.out.mono ?_; rintro e w' ⟨rfl, rfl⟩))
                go_round
                case rel => exact ⟨m + 1, _, by omega, by omega, by go_num, by rw [HSUM.out], HNX⟩
                case measure => simp [intOf]; omega
              · rw [hb] at hh
                rw [or_has y m hm64 hb] at hnext
                have HH := Lib.hid hh
                have HNX := Lib.hid hnext
                clear hh hb hnext hy
                unfold U at HH ⊢
                go_wp2_with (go_at_call 31; refine HH.out.mono ?_; rintro e w' ⟨rfl, rfl⟩)
                go_round
                case rel => exact ⟨m + 1, y, by omega, by omega, by go_num, rfl, HNX⟩
                case measure => simp [intOf]; omega
            · have hz : m - P = P + 1 - P := by omega
              have HZ := Lib.hid hy.out
              rw [hz] at HZ
              have HR := Lib.hid (run_next HAT.out hrun.out (hst.trans (congrArg (fun z => some (z, (-1 : Int), (-1 : Int))) HZ.out.symm)))
              clear hst hy hz
              unfold U
              go_wp2
              go_round
              case rel => exact ⟨k + 1, y, -1, -1, by omega, by go_num, rfl, rfl, rfl, by omega, HR⟩
              case measure => simp [intOf]
        · have hq : 0 ≤ q := by assumption
          obtain ⟨Q, rfl⟩ := Int.eq_ofNat_of_zero_le hq
          have hst := step_comma x P Q Q 44 HC44.out (by rw [if_neg (by omega)])
          go_loop [4, 9] (fun s j => ∃ (m : Nat) (y : BitVec 64), Q ≤ m ∧ m ≤ max Q (P + 1) ∧ j = .int .i64 m ∧ s = U y ∧ Hid (y = x ||| orAll (List.range' Q (m - Q)))) (fun _ j => P + 1 - (intOf j).toNat)
          case atStart => exact ⟨Q, x, by omega, by omega, rfl, rfl, Lib.hid (by simp [orAll])⟩
          case round =>
            obtain ⟨m, y, hm1, hm2, rfl, rfl, hy⟩ := hrel
            by_cases hmp : m ≤ P
            · have hm64 : m < 64 := by omega
              have hh := ref_has y (m : Int) w
              rw [has_nat] at hh
              have hnext := run_bit x Q m hm1
              rw [← hy.out] at hnext
              cases hb : y.getLsbD m
              · rw [hb] at hh
                have hsum := add_pow' y m hm64
                rw [or_free y m hm64 hb] at hsum
                have HH := Lib.hid hh
                have HSUM := Lib.hid hsum
                have hone := Lib.hid (one_any m hm64 w)
                have HNX := Lib.hid hnext
                clear hh hb hsum hnext hy
                unfold U at HH ⊢
                go_wp2_with (first | (go_at_call 31; refine HH.out.mono ?_; rintro e w' ⟨rfl, rfl⟩) | (go_at_call 50; refine hone.out.mono ?_; rintro e w' ⟨rfl, rfl⟩))
                go_round
                case rel => exact ⟨m + 1, _, by omega, by omega, by go_num, by rw [HSUM.out], HNX⟩
                case measure => simp [intOf]; omega
              · rw [hb] at hh
                rw [or_has y m hm64 hb] at hnext
                have HH := Lib.hid hh
                have HNX := Lib.hid hnext
                clear hh hb hnext hy
                unfold U at HH ⊢
                go_wp2_with (go_at_call 31; refine HH.out.mono ?_; rintro e w' ⟨rfl, rfl⟩)
                go_round
                case rel => exact ⟨m + 1, y, by omega, by omega, by go_num, rfl, HNX⟩
                case measure => simp [intOf]; omega
            · have hz : m - Q = P + 1 - Q := by omega
              have HZ := Lib.hid hy.out
              rw [hz] at HZ
              have HR := Lib.hid (run_next HAT.out hrun.out (hst.trans (congrArg (fun z => some (z, (-1 : Int), (-1 : Int))) HZ.out.symm)))
              clear hst hy hz
              unfold U
              go_wp2
              go_round
              case rel => exact ⟨k + 1, y, -1, -1, by omega, by go_num, rfl, rfl, rfl, by omega, HR⟩
              case measure => simp [intOf]
      · obtain rfl : k = n + 1 := by omega
        have hfull : (t ++ [44]).take (n + 1) = t ++ [44] := by rw [← hn]; exact List.take_of_length_le (by simp)
        have hrun2 := hrun.out
        rw [hfull] at hrun2
        have HR := Lib.hid hrun2
        clear hrun hrun2 hfull
        have hsh := ref_show x w
        obtain ⟨T, hT⟩ : ∃ T, showL x = T := ⟨_, rfl⟩
        rw [hT] at hsh
        have HS := Lib.hid hsh
        have HT := Lib.hid hT
        clear hsh hT
        unfold U at HS ⊢
        by_cases he : T = t
        · have hb : (T == t) = true := by rw [beq_iff_eq]; exact he
          have hb2 : (T != t) = false := by rw [bne_eq_false_iff_eq]; exact he
          have HE := Lib.hid he
          clear he
          go_wp2_with fail
          refine HS.out.mono ?_
          rintro e w1 ⟨rfl, hB⟩
          go_wp2
          go_ret2
          exact ⟨.inl ⟨x, HT.out.trans HE.out, rfl⟩, hB⟩
        · have hb : (T == t) = false := by rw [beq_eq_false_iff_ne]; exact he
          have hb2 : (T != t) = true := by rw [bne_iff_ne]; exact he
          have HE := Lib.hid he
          clear he
          go_wp2_with fail
          refine HS.out.mono ?_
          rintro e w1 ⟨rfl, hB⟩
          go_wp2_with (go_at_call 49; refine (ref_only t _).mono ?_; rintro e w' ⟨rfl, rfl⟩)
          go_ret2
          exact ⟨only_other HR.out (by rw [HT.out]; exact HE.out), hB⟩
end Go.Proofs.YtegjlgdbipfpaaaGreatDoor
