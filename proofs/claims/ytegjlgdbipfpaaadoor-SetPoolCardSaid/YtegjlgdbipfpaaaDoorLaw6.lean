/-
  concordatlaw06.SetPool returns true: its walk.
-/
import Derived.Test.YtegjlgdbipfpaaaDoorRefB
import Derived.Test.YtegjlgdbipfpaaaDoorLaw8
namespace Go.Proofs.YtegjlgdbipfpaaaDoor
open Go Go.RowKit

theorem pool_long (t : BitVec 64) (a : Option Addr) (n cap : Nat) (w : World) (hg : gTop ≤ w.heap.size) (hl : Laid w) (h : 200 < n) :
    Calls Tryd.prog 6 #[U t, .slice a n cap] w fun e w' => e = .returned (.bool true) ∧ Below w.heap.size w w' := by
  have HAL := Lib.hid (alive_any w hg hl)
  clear hl
  go_enter Tryd.func6, Tryd.ntmps6
  go_wp2_with fail
  refine HAL.out.mono ?_
  rintro e w1 ⟨rfl, hB⟩
  go_wp2
  go_ret
  exact ⟨rfl, hB⟩

theorem pool_nil (t : BitVec 64) (a : Option Addr) (cap : Nat) (w : World) (hg : gTop ≤ w.heap.size) (hl : Laid w) :
    Calls Tryd.prog 6 #[U t, .slice a 0 cap] w fun e w' => e = .returned (.bool true) ∧ Below w.heap.size w w' := by
  have HAL := Lib.hid (alive_any w hg hl)
  clear hl
  go_enter Tryd.func6, Tryd.ntmps6
  go_wp2_with fail
  refine HAL.out.mono ?_
  rintro e w1 ⟨rfl, hB⟩
  go_wp2_with fail
  refine (newPool_any t w1).mono ?_
  rintro e w' ⟨rfl, rfl⟩
  go_wp2_with fail
  go_loop [7] (fun i => i = .int .i64 0) (fun _ => 0)
  case atStart => rfl
  case round =>
    subst hrel
    go_wp2
    go_ret
    exact ⟨rfl, hB.alloc hB.size _⟩

theorem grab_apart (t : BitVec 64) (n : Nat) (h : n ≤ (cats (~~~t)).length) : grab t n &&& t = 0#64 := by
  rw [grab_take t n h]
  apply BitVec.eq_of_getLsbD_eq
  intro i hi
  rw [BitVec.getLsbD_and, orAll_bit _ (fun c hc => cats_lt (List.mem_of_mem_take hc))]
  cases ht : t.getLsbD i
  · simp
  · have : i ∉ (cats (~~~t)).take n := fun hm => by
      have := mem_cats.1 (List.mem_of_mem_take hm)
      simp [ht] at this
    simp [this]
theorem has_low_self (k : Nat) (hk : k < 64) : hasB (1#64 <<< k) (k : Int) = true := by simp [hasB, one_shl_bit k k hk]
theorem has_low_free {t : BitVec 64} (h : ~~~t ≠ 0#64) : hasB t (low (~~~t) : Int) = false := by
  have h1 := low_bit h
  have h2 := low_lt h
  rw [BitVec.getLsbD_not] at h1
  simp only [h2, decide_true, Bool.true_and, Bool.not_eq_true'] at h1
  simp only [hasB, Int.toNat_natCast, h1, Bool.and_false]

set_option maxRecDepth 100000 in
set_option maxHeartbeats 2000000 in
theorem pool_at (t0 : BitVec 64) (b off cap : Nat) (L : List Int) (w : World) (hg : gTop ≤ w.heap.size) (hl : Laid w)
    (hcell : ∀ j, j < L.length → w.cell? ⟨b, off + j, none⟩ = some (.int .i64 (L[j]?.getD 0))) (h : L.length ≤ 200) :
    Calls Tryd.prog 6 #[U t0, .slice (some ⟨b, off, none⟩) L.length cap] w fun e w' => e = .returned (.bool true) ∧ Below w.heap.size w w' := by
  have HC := Lib.hid hcell
  have hblt : ∀ j, j < L.length → b < w.heap.size := fun j hj => World.block_lt_of_cell? w _ (hcell j hj)
  have HBL := Lib.hid hblt
  have HAL := Lib.hid (alive_any w hg hl)
  have HL := Lib.hid hl
  have hnd : decide (200 < (L.length : Int)) = false := by simp; omega
  have hnd2 : decide (200 < L.length) = false := by simp; omega
  clear hcell hblt hl
  go_enter Tryd.func6, Tryd.ntmps6
  go_wp2_with fail
  refine HAL.out.mono ?_
  rintro e w1 ⟨rfl, hB⟩
  go_wp2_with fail
  refine (newPool_any t0 w1).mono ?_
  rintro e w' ⟨rfl, rfl⟩
  have p0 := Boxed.new w1 87 (U t0)
  have hgw := Nat.le_trans hg hB.size
  go_wp2_with fail
  go_loopw [6, 7] (fun u i wr => ∃ (k : Nat) (t : BitVec 64), k ≤ L.length ∧ i = .int .i64 k ∧ u = U t ∧ Boxed wr w1.heap.size 87 (U t) ∧ Below w1.heap.size w1 wr) (fun _ i _ => L.length - (intOf i).toNat)
  case atStart => exact ⟨0, t0, Nat.zero_le _, rfl, rfl, p0, (Below.refl _ _).alloc (Nat.le_refl _) _⟩
  case round =>
    obtain ⟨k, t, hk, rfl, rfl, hp, hBr⟩ := hrel
    have hBw := hB.trans (hBr.mono hB.size)
    have hlr := HL.out.below hBw
    by_cases hlt : k < L.length
    · have x1 := (hBw.cell (p := ⟨b, off + k, none⟩) (HBL.out k hlt)).trans (HC.out k hlt)
      obtain ⟨y, hy⟩ : ∃ y, L[k]?.getD 0 = y := ⟨_, rfl⟩
      rw [hy] at x1
      have HY := Lib.hid hy
      clear hy p0
      by_cases hy1 : y = 1
      · subst hy1
        by_cases hf : ~~~t = 0#64
        · have HT := Lib.hid (take_full w1.heap.size t wr hp hf)
          have hrt : Calls Tryd.prog 34 #[U t, .int .i64 1] wr fun e w' => e = .returned (.tuple #[U 0#64, U t, .bool false]) ∧ wr = w' :=
            (ref_take t 1 wr).mono fun e w' ⟨hw, hr⟩ => by
              rcases hr with ⟨h2, _⟩ | ⟨_, he⟩
              · rw [hf, cats_zero] at h2; simp at h2
              · exact ⟨he, hw⟩
          have HRT := Lib.hid hrt
          have HTK := Lib.hid (taken_any w1.heap.size t wr hp)
          clear hrt hf
          go_wp2_with fail
          refine HT.out.mono ?_
          rintro e w' ⟨rfl, rfl⟩
          go_wp2_with fail
          refine HRT.out.mono ?_
          rintro e w' ⟨rfl, rfl⟩
          go_wp2_with fail
          refine HTK.out.mono ?_
          rintro e w' ⟨rfl, rfl⟩
          go_wp2
          go_roundw
          case rel => exact ⟨k + 1, t, by omega, by go_num, rfl, hp, hBr⟩
          case measure => simp [intOf]; omega
        · have hT := take_ok w1.heap.size t wr hlr hgw hp hf
          have hrt : Calls Tryd.prog 34 #[U t, .int .i64 1] (wr.setCell ⟨w1.heap.size, 0, none⟩ (U (t ||| (1#64 <<< low (~~~t))))) fun e w' => e = .returned (.tuple #[U (1#64 <<< low (~~~t)), U (t ||| (1#64 <<< low (~~~t))), .bool true]) ∧ (wr.setCell ⟨w1.heap.size, 0, none⟩ (U (t ||| (1#64 <<< low (~~~t))))) = w' :=
            (ref_take t 1 _).mono fun e w' ⟨hw, hr⟩ => by
              rcases hr with ⟨_, he⟩ | ⟨h2, _⟩
              · have e1 : grab t 1 = 1#64 <<< low (~~~t) := by simp [grab]
                rw [e1] at he
                exact ⟨he, hw⟩
              · rw [cats_cons hf] at h2; simp at h2
          have hlo := low_lt hf
          have hs1 := has_low_self (low (~~~t)) hlo
          have hs2 := has_low_free hf
          have hp2 := hp.set (U (t ||| (1#64 <<< low (~~~t))))
          have hB2 := hBr.setCell (p := ⟨w1.heap.size, 0, none⟩) (Nat.le_refl _) (U (t ||| (1#64 <<< low (~~~t))))
          obtain ⟨q, hq⟩ : ∃ q, low (~~~t) = q := ⟨_, rfl⟩
          rw [hq] at hT hrt hs1 hs2 hp2 hB2 hlo
          obtain ⟨u, hu⟩ : ∃ u, 1#64 <<< q = u := ⟨_, rfl⟩
          rw [hu] at hT hrt hs1 hp2 hB2
          obtain ⟨t2, ht2⟩ : ∃ t2, t ||| u = t2 := ⟨_, rfl⟩
          rw [ht2] at hT hrt hp2 hB2
          clear hq hu ht2 hf
          obtain ⟨W2, hW2⟩ : ∃ W2, wr.setCell ⟨w1.heap.size, 0, none⟩ (U t2) = W2 := ⟨_, rfl⟩
          rw [hW2] at hT hrt hp2 hB2
          have hh1 := has_any u q W2
          have hh2 := has_any t q W2
          rw [hs1] at hh1
          rw [hs2] at hh2
          have HT := Lib.hid hT
          have HRT := Lib.hid hrt
          have HH1 := Lib.hid hh1
          have HH2 := Lib.hid hh2
          have HTK := Lib.hid (taken_any w1.heap.size t2 W2 hp2)
          clear hT hrt hh1 hh2 hs1 hs2 hW2
          go_wp2_with fail
          refine HT.out.mono ?_
          rintro e w' ⟨rfl, rfl⟩
          go_wp2_with fail
          refine HRT.out.mono ?_
          rintro e w' ⟨rfl, rfl⟩
          go_wp2_with fail
          refine HH1.out.mono ?_
          rintro e w' ⟨rfl, rfl⟩
          go_wp2_with fail
          refine HH2.out.mono ?_
          rintro e w' ⟨rfl, rfl⟩
          go_wp2_with fail
          refine HTK.out.mono ?_
          rintro e w' ⟨rfl, rfl⟩
          go_wp2
          go_roundw
          case rel => exact ⟨k + 1, t2, by omega, by go_num, rfl, hp2, hB2⟩
          case measure => simp [intOf]; omega
      · have hyb : (y == 1) = false := by rw [beq_eq_false_iff_ne]; exact hy1
        have hres : ∃ (s t2 : BitVec 64) (er : Int) (W2 : World), s &&& t = 0#64 ∧ Boxed W2 w1.heap.size 87 (U t2) ∧ Below w1.heap.size w1 W2 ∧
            Hid (Calls Tryd.prog 35 #[.pointer (some ⟨w1.heap.size, 0, none⟩), .int .i64 y] wr fun e w' => e = .returned (.tuple #[U s, .int .i64 er]) ∧ W2 = w') ∧
            Hid (Calls Tryd.prog 36 #[U t, .int .i64 y] W2 fun e w' => e = .returned (.tuple #[U s, U t2, .int .i64 er]) ∧ W2 = w') := by
          by_cases hr : y < 0 ∨ 64 < y
          · exact ⟨0#64, t, 11, wr, by simp, hp, hBr, many_range _ _ _ hr, ref_many_range _ _ _ hr⟩
          · obtain ⟨m, rfl⟩ := Int.eq_ofNat_of_zero_le (show 0 ≤ y by omega)
            by_cases hm : m ≤ (cats (~~~t)).length
            · exact ⟨grab t m, t ||| grab t m, 0, _, grab_apart t m hm, hp.set _, hBr.setCell (p := ⟨w1.heap.size, 0, none⟩) (Nat.le_refl _) _, many_ok _ t m wr hlr hp (by omega) hm, ref_many_ok t m _ (by omega) hm⟩
            · exact ⟨0#64, t, 16, wr, by simp, hp, hBr, many_few _ t m wr hp (by omega) (by omega) (by omega), ref_many_few t m _ (by omega) (by omega)⟩
        obtain ⟨s, t2, er, W2, hst, hp2, hB2, HM, HR⟩ := hres
        have hand := and_bv s t
        rw [hst] at hand
        have HAND := Lib.hid hand
        have HTK := Lib.hid (taken_any w1.heap.size t2 W2 hp2)
        have hB3 := hB.trans (hB2.mono hB.size)
        have x2 := (hB3.cell (p := ⟨b, off + k, none⟩) (HBL.out k hlt)).trans (HC.out k hlt)
        rw [HY.out] at x2
        clear hst hand hy1
        go_wp2_with fail
        refine HM.out.mono ?_
        rintro e w' ⟨rfl, rfl⟩
        go_wp2_with fail
        refine HR.out.mono ?_
        rintro e w' ⟨rfl, rfl⟩
        have HZ : Hid (bits BinOp.and .u64 (s.toNat : Int) (t.toNat : Int) = 0) := HAND.out
        go_wp2_with fail
        · rename_i hne
          exact absurd hne (by rw [HZ.out]; decide)
        · refine HTK.out.mono ?_
          rintro e w' ⟨rfl, rfl⟩
          go_wp2
          go_roundw
          case rel => exact ⟨k + 1, t2, by omega, by go_num, rfl, hp2, hB2⟩
          case measure => simp [intOf]; omega
    · go_wp2
      go_ret
      exact ⟨rfl, hBw⟩

theorem pool_law (t : BitVec 64) (v : Value) (L : List Int) (w : World) (hg : gTop ≤ w.heap.size) (hl : Laid w) (hv : IntsAt w v L) :
    Calls Tryd.prog 6 #[U t, v] w fun e w' => e = .returned (.bool true) ∧ Below w.heap.size w w' := by
  rcases hv with ⟨rfl, a, cap, rfl⟩ | ⟨b, off, cap, rfl, hc⟩
  · exact pool_nil t a cap w hg hl
  · by_cases h : L.length ≤ 200
    · exact pool_at t b off cap L w hg hl hc h
    · exact pool_long t _ _ _ w hg hl (by omega)
end Go.Proofs.YtegjlgdbipfpaaaDoor
