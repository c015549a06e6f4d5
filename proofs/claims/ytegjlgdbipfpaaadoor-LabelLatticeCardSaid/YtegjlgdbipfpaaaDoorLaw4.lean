/-
  concordatlaw06.SetBack returns true: its walk.
-/
import Derived.Test.YtegjlgdbipfpaaaDoorAliveA
namespace Go.Proofs.YtegjlgdbipfpaaaDoor
open Go Go.RowKit

theorem ofBits_ints (l : List Nat) : ofBits (toInts l) = orAll l := by
  unfold ofBits orAll toInts
  rw [List.foldl_map]
  rfl
theorem ofRes_cats (s : BitVec 64) : ofRes (toInts (cats s)) = .tuple #[U s, .bool true] := by
  have h : (toInts (cats s)).all isCat = true := by
    rw [List.all_eq_true]
    intro x hx
    obtain ⟨c, hc, rfl⟩ := List.mem_map.1 hx
    have := cats_lt hc
    simp [isCat]; omega
  rw [ofRes, if_pos h, ofBits_ints, orAll_cats]
theorem cats_rising (s : BitVec 64) (i j : Nat) (h : i < j) (hj : j < (cats s).length) : (toInts (cats s))[i]?.getD 0 < (toInts (cats s))[j]?.getD 0 := by
  have hs : (cats s).Pairwise (· < ·) := by unfold cats; exact List.Pairwise.filter _ List.pairwise_lt_range
  have := List.pairwise_iff_getElem.1 hs i j (by omega) hj h
  simp only [toInts, List.getElem?_map, List.getElem?_eq_getElem hj, List.getElem?_eq_getElem (show i < (cats s).length by omega), Option.map_some, Option.getD_some]
  omega
theorem show_len (s : BitVec 64) : (showL s).length ≤ 400 := by
  unfold showL
  split
  · simp
  · have h := join_len (texts s) (fun x hx => by
      obtain ⟨p, hp, rfl⟩ := List.mem_map.1 hx
      exact spanText_len p (spans_lt hp).1 (spans_lt hp).2)
    have h2 : (texts s).length ≤ 64 := by
      unfold texts
      rw [List.length_map]
      exact Nat.le_trans (spansOf_length _) (cats_length s)
    omega
theorem list_ints (s : BitVec 64) (w : World) (hl : Laid w) (hg : gTop ≤ w.heap.size) :
    Calls Tryd.prog 22 #[U s] w fun e w' => ∃ v, e = .returned v ∧ IntsAt w' v (toInts (cats s)) ∧ Below w.heap.size w w' :=
  (list_any s w hl hg).mono fun _ _ ⟨v, he, hr, hb⟩ => ⟨v, he, intsAt_row hr, hb⟩

set_option maxHeartbeats 1000000 in
set_option maxRecDepth 100000 in
theorem back_any (a b : BitVec 64) (w : World) (hg : gTop ≤ w.heap.size) (hl : Laid w) :
    Calls Tryd.prog 4 #[U a, U b] w fun e w' => e = .returned (.bool true) ∧ Below w.heap.size w w' := by
  have HAL := Lib.hid (alive_any w hg hl)
  have HL := Lib.hid hl
  have hlen := cats_length a
  clear hl
  obtain ⟨L, hL⟩ : ∃ L, toInts (cats a) = L := ⟨_, rfl⟩
  have hn : L.length ≤ 64 := by rw [← hL]; simpa [toInts] using hlen
  have hof : ofRes L = .tuple #[U a, .bool true] := by rw [← hL]; exact ofRes_cats a
  have hris : ∀ i j, i < j → j < L.length → L[i]?.getD 0 < L[j]?.getD 0 := by
    intro i j h1 h2; rw [← hL]; exact cats_rising a i j h1 (by rw [← hL] at h2; simpa [toInts] using h2)
  have hli := fun W hl hg => list_ints a W hl hg
  simp only [hL] at hli
  have HLI := Lib.hid hli
  have HOF := Lib.hid hof
  have HRIS := Lib.hid hris
  have hcase : (showL a == showL b) = true ∧ ((a.toNat : Int) == (b.toNat : Int)) = true ∨ (showL a == showL b) = false ∧ ((a.toNat : Int) == (b.toNat : Int)) = false := by
    by_cases h : a = b
    · subst h; simp
    · refine .inr ⟨?_, ?_⟩
      · rw [beq_eq_false_iff_ne]; exact fun e => h (show_inj e)
      · rw [beq_eq_false_iff_ne]; exact fun e => h (BitVec.eq_of_toNat_eq (by omega))
  have hlena := Nat.le_trans (show_len a) (show 400 ≤ 4294967280 by decide)
  clear hL hlen hli hof hris
  go_enter Tryd.func4, Tryd.ntmps4
  go_wp2_with fail
  refine HAL.out.mono ?_
  rintro e w1 ⟨rfl, hB⟩
  go_wp2_with fail
  refine (HLI.out w1 (HL.out.below hB) (Nat.le_trans hg hB.size)).mono ?_
  rintro e w2 ⟨v, rfl, hv, hb2⟩
  have hB2 := hB.trans (hb2.mono hB.size)
  clear hb2
  have HV := Lib.hid hv
  have hof2 := of_any v L w2 hv (by omega)
  rw [HOF.out] at hof2
  have HOF2 := Lib.hid hof2
  clear hof2 hv
  go_wp2_with fail
  refine HOF2.out.mono ?_
  rintro e w' ⟨rfl, rfl⟩
  go_wp2_with fail
  refine (show_any a w2 (Nat.le_trans hg hB2.size) (HL.out.below hB2)).mono ?_
  rintro e w3 ⟨rfl, hb3⟩
  have hB3 := hB2.trans (hb3.mono hB2.size)
  have HV3 := Lib.hid (HV.out.below hb3)
  clear hb3
  go_wp2_with fail
  refine (read_any (showL a) hlena w3 (Nat.le_trans hg hB3.size) (HL.out.below hB3)).mono ?_
  rintro e w4 ⟨hb4, hr4⟩
  have hB4 := hB3.trans (hb4.mono hB3.size)
  have HV4 := Lib.hid (HV3.out.below hb4)
  have he : e = .returned (.tuple #[U a, .bool true]) := by
    rcases hr4 with ⟨s, h1, h2⟩ | ⟨h1, _⟩
    · rw [h2, show_inj h1]
    · exact absurd rfl (h1 a)
  clear hr4 hb4
  subst he
  go_wp2_with fail
  rcases HV4.out with ⟨rfl, a1, cap, rfl⟩ | ⟨b1, off, cap, rfl, hc⟩
  · go_loopw [10] (fun i wr => i = .int .i64 1 ∧ Below w.heap.size w wr) (fun _ _ => 0)
    case atStart => exact ⟨rfl, hB4⟩
    case round =>
      obtain ⟨rfl, hBr⟩ := hrel
      go_wp2_with fail
      refine (show_any a _ (Nat.le_trans hg hBr.size) (HL.out.below hBr)).mono ?_
      rintro e w5 ⟨rfl, hb5⟩
      have hB5 := hBr.trans (hb5.mono hBr.size)
      clear hb5
      go_wp2_with fail
      refine (show_any b _ (Nat.le_trans hg hB5.size) (HL.out.below hB5)).mono ?_
      rintro e w6 ⟨rfl, hb6⟩
      have hB6 := hB5.trans (hb6.mono hB5.size)
      clear hb6
      rcases hcase with ⟨hc1, hc2⟩ | ⟨hc1, hc2⟩
      all_goals
        go_wp2
        go_ret
        exact ⟨rfl, hB6⟩
  · have HC := Lib.hid hc
    have hblt : ∀ j, j < L.length → b1 < w4.heap.size := fun j hj => World.block_lt_of_cell? w4 _ (hc j hj)
    have HBL := Lib.hid hblt
    clear hc hblt
    go_loopw [10] (fun i wr => ∃ k : Nat, 1 ≤ k ∧ k ≤ 64 ∧ i = .int .i64 k ∧ Below w.heap.size w wr ∧ Below w4.heap.size w4 wr) (fun i _ => L.length - (intOf i).toNat)
    case atStart => exact ⟨1, by omega, by omega, rfl, hB4, Below.refl _ _⟩
    case round =>
      obtain ⟨k, hk1, hk2, rfl, hBr, hB4r⟩ := hrel
      by_cases hlt : k < L.length
      · have x1 := (hB4r.cell (p := ⟨b1, off + k, none⟩) (HBL.out k hlt)).trans (HC.out k hlt)
        have x2 := (hB4r.cell (p := ⟨b1, off + (k - 1), none⟩) (HBL.out (k - 1) (by omega))).trans (HC.out (k - 1) (by omega))
        have hle := HRIS.out (k - 1) k (by omega) hlt
        obtain ⟨y1, hy1⟩ : ∃ y, L[k]?.getD 0 = y := ⟨_, rfl⟩
        obtain ⟨y2, hy2⟩ : ∃ y, L[k - 1]?.getD 0 = y := ⟨_, rfl⟩
        rw [hy1] at x1 hle
        rw [hy2] at x2 hle
        clear hy1 hy2
        have hnle : decide (y1 ≤ y2) = false := by simp; omega
        obtain ⟨m, rfl⟩ : ∃ m, k = m + 1 := ⟨k - 1, by omega⟩
        simp only [Nat.add_sub_cancel] at x2
        go_wp2
        go_quiet (fail)
        go_wp2
        go_roundw
        case rel => exact ⟨m + 1 + 1, by omega, by omega, by go_num, below_drewN hBr _, below_drewN hB4r _⟩
        case measure => simp [intOf]; omega
      · go_wp2_with fail
        refine (show_any a _ (Nat.le_trans hg hBr.size) (HL.out.below hBr)).mono ?_
        rintro e w5 ⟨rfl, hb5⟩
        have hB5 := hBr.trans (hb5.mono hBr.size)
        clear hb5
        go_wp2_with fail
        refine (show_any b _ (Nat.le_trans hg hB5.size) (HL.out.below hB5)).mono ?_
        rintro e w6 ⟨rfl, hb6⟩
        have hB6 := hB5.trans (hb6.mono hB5.size)
        clear hb6
        rcases hcase with ⟨hc1, hc2⟩ | ⟨hc1, hc2⟩
        all_goals
          go_wp2
          go_ret
          exact ⟨rfl, hB6⟩
end Go.Proofs.YtegjlgdbipfpaaaDoor
