/-
  bits.OnesCount64; the pool: NewPool, Taken, Many, Take.
-/
import Derived.Test.YtegjlgdbipfpaaaDoorPop
import Derived.Test.YtegjlgdbipfpaaaDoorOf
namespace Go.Proofs.YtegjlgdbipfpaaaDoor
open Go Go.RowKit

theorem rep85 : rep 85 8 = 6148914691236517205 := by decide +kernel
theorem rep51 : rep 51 8 = 3689348814741910323 := by decide +kernel
theorem rep15 : rep 15 8 = 1085102592571150095 := by decide +kernel

theorem e_s1 (n : Nat) (h : n < 18446744073709551616) : IntKind.u64.wrap (bits .and .u64 ((n : Int) / 2) 6148914691236517205 + bits .and .u64 (n : Int) 6148914691236517205) = ((s1 (rep 85 8) n : Nat) : Int) := by
  have k1 := u64_and_nat (n / 2) 6148914691236517205 (by omega) (by omega)
  have k2 := u64_and_nat n 6148914691236517205 h (by omega)
  have l1 : n / 2 &&& 6148914691236517205 ≤ 6148914691236517205 := Nat.and_le_right
  have l2 : n &&& 6148914691236517205 ≤ 6148914691236517205 := Nat.and_le_right
  rw [show ((n : Int) / 2) = ((n / 2 : Nat) : Int) by omega, show (6148914691236517205 : Int) = ((6148914691236517205 : Nat) : Int) from rfl, k1, k2, IntKind.wrap_u64, rep85, s1]
  omega
theorem s1_lt (n : Nat) : s1 (rep 85 8) n < 18446744073709551616 := by
  have l1 : n / 2 &&& rep 85 8 ≤ rep 85 8 := Nat.and_le_right
  have l2 : n &&& rep 85 8 ≤ rep 85 8 := Nat.and_le_right
  rw [rep85] at l1 l2
  rw [s1, rep85]
  omega
theorem e_s2 (n : Nat) (h : n < 18446744073709551616) : IntKind.u64.wrap (bits .and .u64 ((n : Int) / 4) 3689348814741910323 + bits .and .u64 (n : Int) 3689348814741910323) = ((s2 (rep 51 8) n : Nat) : Int) := by
  have k1 := u64_and_nat (n / 4) 3689348814741910323 (by omega) (by omega)
  have k2 := u64_and_nat n 3689348814741910323 h (by omega)
  have l1 : n / 4 &&& 3689348814741910323 ≤ 3689348814741910323 := Nat.and_le_right
  have l2 : n &&& 3689348814741910323 ≤ 3689348814741910323 := Nat.and_le_right
  rw [show ((n : Int) / 4) = ((n / 4 : Nat) : Int) by omega, show (3689348814741910323 : Int) = ((3689348814741910323 : Nat) : Int) from rfl, k1, k2, IntKind.wrap_u64, rep51, s2]
  omega
theorem s2_lt (n : Nat) : s2 (rep 51 8) n ≤ 7378697629483820646 := by
  have l1 : n / 4 &&& rep 51 8 ≤ rep 51 8 := Nat.and_le_right
  have l2 : n &&& rep 51 8 ≤ rep 51 8 := Nat.and_le_right
  rw [rep51] at l1 l2
  rw [s2, rep51]
  omega
theorem e_s3 (n : Nat) (h : n ≤ 7378697629483820646) : bits .and .u64 (IntKind.u64.wrap ((n : Int) / 16 + (n : Int))) 1085102592571150095 = ((s3 (rep 15 8) n : Nat) : Int) := by
  have e : IntKind.u64.wrap ((n : Int) / 16 + (n : Int)) = ((n / 16 + n : Nat) : Int) := by rw [IntKind.wrap_u64]; omega
  rw [e, rep15, s3]
  exact u64_and_nat (n / 16 + n) 1085102592571150095 (by omega) (by omega)
theorem e_fold (n d : Nat) : IntKind.u64.wrap ((n : Int) + (n : Int) / (d : Int)) = ((fold n d : Nat) : Int) := by
  rw [IntKind.wrap_u64, fold, m64]
  simp
theorem e_127 (n : Nat) (h : n < 18446744073709551616) : bits .and .i64 (wrap64 (n : Int)) 127 = ((n % 128 : Nat) : Int) := by
  have h1 : (BitVec.ofInt 64 (wrap64 (n : Int))).toNat = n := by
    rw [BitVec.toNat_ofInt]; unfold wrap64; omega
  show IntKind.i64.wrap ((BitVec.ofInt 64 (wrap64 (n : Int)) &&& BitVec.ofInt 64 127).toNat : Int) = _
  rw [BitVec.toNat_and, h1, show (BitVec.ofInt 64 127).toNat = 127 by decide, nat_mask7]
  simp [IntKind.wrap, IntKind.bits, IntKind.signed]
  omega
theorem fold_lt (n d : Nat) : fold n d < 18446744073709551616 := by unfold fold m64; omega

theorem e_ones (x : BitVec 64) {v : Int} (h : v = bits .and .i64 (wrap64 ((fold (fold (fold (s123 8 x.toNat) 256) 65536) 4294967296 : Nat) : Int)) 127) : v = ((cats x).length : Int) := by
  rw [h, e_127 _ (fold_lt _ _)]
  have := ones_pop x.toNat x.isLt
  unfold ones at this
  rw [this, pop_cats]

theorem ones_any (x : BitVec 64) (w : World) : Calls Tryd.prog 62 #[U x] w fun e w' => e = .returned (.int .i64 ((cats x).length : Int)) ∧ w = w' := by
  have H1 := Lib.hid (e_s1 x.toNat x.isLt)
  have H2 := Lib.hid (e_s2 (s1 (rep 85 8) x.toNat) (s1_lt _))
  have H3 := Lib.hid (e_s3 (s2 (rep 51 8) (s1 (rep 85 8) x.toNat)) (s2_lt _))
  have H4 := Lib.hid (e_fold (s123 8 x.toNat) 256)
  have H5 := Lib.hid (e_fold (fold (s123 8 x.toNat) 256) 65536)
  have H6 := Lib.hid (e_fold (fold (fold (s123 8 x.toNat) 256) 65536) 4294967296)
  unfold U
  go_enter Tryd.func62, Tryd.ntmps62
  go_wp2
  go_ret
  refine ⟨ret_of ?_, rfl⟩
  show Value.int .i64 _ = _
  rw [H1.out, H2.out, H3.out]
  refine congrArg (Value.int .i64) (e_ones x ?_)
  exact congrArg (fun z : Int => bits .and .i64 (wrap64 z) 127) (by
    show IntKind.u64.wrap (IntKind.u64.wrap (IntKind.u64.wrap (((s123 8 x.toNat : Nat) : Int) + ((s123 8 x.toNat : Nat) : Int) / 256) + IntKind.u64.wrap (((s123 8 x.toNat : Nat) : Int) + ((s123 8 x.toNat : Nat) : Int) / 256) / 65536) + IntKind.u64.wrap (IntKind.u64.wrap (((s123 8 x.toNat : Nat) : Int) + ((s123 8 x.toNat : Nat) : Int) / 256) + IntKind.u64.wrap (((s123 8 x.toNat : Nat) : Int) + ((s123 8 x.toNat : Nat) : Int) / 256) / 65536) / 4294967296) = _
    have h4 : IntKind.u64.wrap (((s123 8 x.toNat : Nat) : Int) + ((s123 8 x.toNat : Nat) : Int) / 256) = _ := H4.out
    have h5 : IntKind.u64.wrap (((fold (s123 8 x.toNat) 256 : Nat) : Int) + ((fold (s123 8 x.toNat) 256 : Nat) : Int) / 65536) = _ := H5.out
    have h6 : IntKind.u64.wrap (((fold (fold (s123 8 x.toNat) 256) 65536 : Nat) : Int) + ((fold (fold (s123 8 x.toNat) 256) 65536 : Nat) : Int) / 4294967296) = _ := H6.out
    rw [h4, h5, h6])

theorem newPool_any (t : BitVec 64) (w : World) : Calls Tryd.prog 32 #[U t] w fun e w' => e = .returned (.pointer (some ⟨w.heap.size, 0, none⟩)) ∧ w.alloc (.cells #[U t] 87) = w' := by
  go_enter Tryd.func32, Tryd.ntmps32
  go_wp2
  go_ret
  exact ⟨rfl, rfl⟩
theorem taken_any (b : Nat) (t : BitVec 64) (w : World) (hb : Boxed w b 87 (U t)) : Calls Tryd.prog 37 #[.pointer (some ⟨b, 0, none⟩)] w fun e w' => e = .returned (U t) ∧ w = w' := by
  have hc := hb.cell
  go_enter Tryd.func37, Tryd.ntmps37
  go_wp2
  go_ret
  exact ⟨rfl, rfl⟩

/-- So many of the least free categories, as the program takes them. -/
def grab (t : BitVec 64) : Nat → BitVec 64
  | 0 => 0#64
  | k + 1 => grab t k ||| (1#64 <<< low (~~~(t ||| grab t k)))

theorem xnot_bv (a : BitVec 64) : bits .xor .u64 IntKind.u64.max (a.toNat : Int) = ((~~~a).toNat : Int) := by
  have k := u64_xor_nat 18446744073709551615 a.toNat (by omega) a.isLt
  have e : IntKind.u64.max = ((18446744073709551615 : Nat) : Int) := by decide
  have e2 : (18446744073709551615 ^^^ a.toNat : Nat) = (BitVec.allOnes 64 ^^^ a).toNat := by rw [BitVec.toNat_xor]; rfl
  rw [e, k, e2, BitVec.allOnes_xor]

theorem one_shl_bit (k j : Nat) (hk : k < 64) : (1#64 <<< k).getLsbD j = decide (j = k) := by
  by_cases h : j < 64
  · rw [BitVec.getLsbD_shiftLeft, Bool.eq_iff_iff]
    simp [h, BitVec.getLsbD_one]
    omega
  · rw [BitVec.getLsbD_of_ge _ _ (by omega)]
    simp; omega

theorem free_step (t o : BitVec 64) (h : ~~~(t ||| o) ≠ 0#64) : ~~~(t ||| (o ||| (1#64 <<< low (~~~(t ||| o))))) = rest (~~~(t ||| o)) := by
  apply BitVec.eq_of_getLsbD_eq
  intro i hi
  rw [rest_bit h]
  simp only [BitVec.getLsbD_not, BitVec.getLsbD_or, one_shl_bit _ _ (low_lt h)]
  cases t.getLsbD i <;> cases o.getLsbD i <;> simp [hi]

theorem cats_grab (t : BitVec 64) : ∀ k, k ≤ (cats (~~~t)).length → cats (~~~(t ||| grab t k)) = (cats (~~~t)).drop k
  | 0, _ => by simp [grab]
  | k + 1, h => by
    have ih := cats_grab t k (by omega)
    have hne : ~~~(t ||| grab t k) ≠ 0#64 := by
      intro e
      rw [e, cats_zero] at ih
      have := congrArg List.length ih
      simp at this; omega
    rw [grab, free_step _ _ hne]
    rw [cats_cons hne] at ih
    have := congrArg List.tail ih
    simpa using this
theorem grab_free (t : BitVec 64) (k : Nat) (h : k < (cats (~~~t)).length) : ~~~(t ||| grab t k) ≠ 0#64 := by
  have ih := cats_grab t k (by omega)
  intro e
  rw [e, cats_zero] at ih
  have := congrArg List.length ih
  simp at this; omega

theorem many_range (b : Nat) (n : Int) (w : World) (h : n < 0 ∨ 64 < n) :
    Calls Tryd.prog 35 #[.pointer (some ⟨b, 0, none⟩), .int .i64 n] w fun e w' => e = .returned (.tuple #[U 0#64, .int .i64 11]) ∧ w = w' := by
  rcases h with h | h
  · go_enter Tryd.func35, Tryd.ntmps35
    go_wp2
    go_ret2
    exact ⟨rfl, rfl⟩
  · have h0 : ¬ n < 0 := by omega
    go_enter Tryd.func35, Tryd.ntmps35
    go_wp2
    go_ret2
    exact ⟨rfl, rfl⟩

theorem many_few (b : Nat) (t : BitVec 64) (n : Int) (w : World) (hb : Boxed w b 87 (U t)) (h0 : 0 ≤ n) (h1 : n ≤ 64) (h : ((cats (~~~t)).length : Int) < n) :
    Calls Tryd.prog 35 #[.pointer (some ⟨b, 0, none⟩), .int .i64 n] w fun e w' => e = .returned (.tuple #[U 0#64, .int .i64 16]) ∧ w = w' := by
  have hc := hb.cell
  have h2 : ¬ n < 0 := by omega
  have h3 : ¬ 64 < n := by omega
  have ho := ones_any (~~~t) w
  unfold U at hc ho
  have HO := Lib.hid ho
  clear ho
  go_enter Tryd.func35, Tryd.ntmps35
  go_wp2_with fail
  rw [xnot_bv]
  refine HO.out.mono ?_
  rintro e w' ⟨rfl, rfl⟩
  go_wp2
  go_ret2
  exact ⟨rfl, rfl⟩

theorem grownBy_refl (w : World) (r : Option Nat) : w.grownBy w r := ⟨rfl, rfl, rfl, Nat.le_refl _, fun _ _ _ => rfl⟩

set_option maxHeartbeats 400000 in
theorem many_ok (b : Nat) (t : BitVec 64) (n : Nat) (w : World) (hl : Laid w) (hb : Boxed w b 87 (U t)) (h1 : n ≤ 64) (h : n ≤ (cats (~~~t)).length) :
    Calls Tryd.prog 35 #[.pointer (some ⟨b, 0, none⟩), .int .i64 n] w fun e w' => e = .returned (.tuple #[U (grab t n), .int .i64 0]) ∧ w.setCell ⟨b, 0, none⟩ (U (t ||| grab t n)) = w' := by
  have hc := hb.cell
  have hf := hb.frozen
  have h2 : ¬ (n : Int) < 0 := by omega
  have h3 : ¬ 64 < (n : Int) := by omega
  have h4 : decide ((cats (~~~t)).length < n) = false := by simp; omega
  have ho := ones_any (~~~t) w
  unfold U at hc ho
  have HO := Lib.hid ho
  clear ho
  go_enter Tryd.func35, Tryd.ntmps35
  go_wp2_with fail
  rw [xnot_bv]
  refine HO.out.mono ?_
  rintro e w' ⟨rfl, rfl⟩
  go_wp2
  go_loop [6, 24] (fun s i => ∃ k : Nat, k ≤ n ∧ i = .int .i64 k ∧ s = U (grab t k)) (fun _ i => n - (intOf i).toNat)
  case atStart => exact ⟨0, Nat.zero_le _, rfl, rfl⟩
  case round =>
    obtain ⟨k, hk, rfl, rfl⟩ := hrel
    by_cases hlt : k < n
    · have hne := grab_free t k (by omega)
      have hlow := low_any _ hne w hl
      have hlo := low_lt hne
      have HL := Lib.hid hlow
      have HG : Hid (grab t (k + 1) = grab t k ||| (1#64 <<< low (~~~(t ||| grab t k)))) := rfl
      clear hlow hne
      obtain ⟨g, hg⟩ : ∃ g, grab t k = g := ⟨_, rfl⟩
      rw [hg] at HL HG hlo ⊢
      clear hg
      unfold U at HL ⊢
      go_wp2_with fail
      rw [or_bv, xnot_bv]
      refine HL.out.mono ?_
      rintro e w' ⟨rfl, rfl⟩
      go_wp2
      go_round
      case rel =>
        rw [shl_or_bv]
        exact ⟨k + 1, by omega, by go_num, by rw [HG.out]⟩
      case measure => simp [intOf]; omega
    · obtain rfl : k = n := by omega
      unfold U
      go_wp2
      go_ret2
      rw [or_bv]
      exact ⟨rfl, rfl⟩

theorem one_shl_ne (k : Nat) (hk : k < 64) : (1#64 <<< k) ≠ 0#64 := by
  intro e
  have := one_shl_bit k k hk
  rw [e] at this
  simp at this
theorem low_one_shl (k : Nat) (hk : k < 64) : low (1#64 <<< k) = k := by
  have h := low_bit (one_shl_ne k hk)
  rw [one_shl_bit k _ hk] at h
  simpa using h

theorem take_full (b : Nat) (t : BitVec 64) (w : World) (hb : Boxed w b 87 (U t)) (h : ~~~t = 0#64) :
    Calls Tryd.prog 33 #[.pointer (some ⟨b, 0, none⟩)] w fun e w' => e = .returned (.tuple #[.int .i64 0, .int .i64 16]) ∧ w = w' := by
  have hm := Lib.hid (many_few b t 1 w hb (by omega) (by omega) (by rw [h, cats_zero]; decide))
  go_enter Tryd.func33, Tryd.ntmps33
  go_wp2_with (go_at_call 35; refine hm.out.mono ?_; rintro e w' ⟨rfl, rfl⟩)
  go_ret2
  exact ⟨rfl, rfl⟩

theorem take_ok (b : Nat) (t : BitVec 64) (w : World) (hl : Laid w) (hg : gTop ≤ b) (hb : Boxed w b 87 (U t)) (h : ~~~t ≠ 0#64) :
    Calls Tryd.prog 33 #[.pointer (some ⟨b, 0, none⟩)] w fun e w' => e = .returned (.tuple #[.int .i64 (low (~~~t)), .int .i64 0]) ∧ w.setCell ⟨b, 0, none⟩ (U (t ||| (1#64 <<< low (~~~t)))) = w' := by
  have hlen : 1 ≤ (cats (~~~t)).length := by rw [cats_cons h]; simp
  have e1 : grab t 1 = 1#64 <<< low (~~~t) := by simp [grab]
  have hm := many_ok b t 1 w hl hb (by omega) hlen
  rw [e1] at hm
  have hk := low_lt h
  have hlow := low_any _ (one_shl_ne _ hk) (w.setCell ⟨b, 0, none⟩ (U (t ||| (1#64 <<< low (~~~t))))) (hl.keep ((Below.refl gTop w).setCell (p := ⟨b, 0, none⟩) hg _) (Nat.le_refl _))
  rw [low_one_shl _ hk] at hlow
  have HM := Lib.hid hm
  have HL := Lib.hid hlow
  clear hm hlow e1 hlen
  obtain ⟨s, hs⟩ : ∃ s, (1#64 <<< low (~~~t)) = s := ⟨_, rfl⟩
  rw [hs] at HM HL ⊢
  clear hs
  go_enter Tryd.func33, Tryd.ntmps33
  go_wp2_with fail
  refine HM.out.mono ?_
  rintro e w' ⟨rfl, rfl⟩
  go_wp2_with fail
  refine HL.out.mono ?_
  rintro e w' ⟨rfl, rfl⟩
  go_wp2
  go_ret2
  exact ⟨rfl, rfl⟩
end Go.Proofs.YtegjlgdbipfpaaaDoor
