/-
  concordatlaw07.LabelNeeds returns true: its walk.
-/
import Derived.Test.YtegjlgdbipfpaaaDoorLabH
import Derived.Deep.RegionHeld3
namespace Go.Proofs.YtegjlgdbipfpaaaDoor
open Go Go.RowKit

theorem need_at (s t s' t' : BitVec 64) (w : World) : Calls Tryd.prog 42 #[.agg #[U s, U t], .agg #[U s', U t']] w fun e w' => e = .returned (U (need s t s' t')) ∧ Below w.heap.size w w' := need_any s t s' t' w
theorem with_at (s t s' t' o : BitVec 64) (w : World) : Calls Tryd.prog 43 #[.agg #[U s, U t], .agg #[U s', U t'], U o] w fun e w' => e = .returned (.bool (win (need s t s' t') o)) ∧ Below w.heap.size w w' := with_any s t s' t' o w
theorem win_or (a b : BitVec 64) : win a (a ||| b) = true := by
  rw [win_iff]
  intro i hi h
  simp [h]
theorem need_three (s1 t1 s2 t2 s3 t3 : BitVec 64) : win (need s1 t1 s3 t3) (need s1 t1 s2 t2 ||| need s2 t2 s3 t3) = true := by
  rw [win_iff]
  intro i hi
  simp only [need, BitVec.getLsbD_or, BitVec.getLsbD_and, BitVec.getLsbD_not, hi, decide_true, Bool.true_and]
  cases s1.getLsbD i <;> cases s2.getLsbD i <;> cases s3.getLsbD i <;> cases t1.getLsbD i <;> cases t2.getLsbD i <;> cases t3.getLsbD i <;> simp
theorem andNot_zero (a b : BitVec 64) : win a b = true → bits .andNot .u64 (a.toNat : Int) (b.toNat : Int) = 0 := by
  intro h
  rw [andNot_bv]
  unfold win at h
  rw [beq_iff_eq] at h
  rw [h]
  rfl
theorem andNot_some (a b : BitVec 64) : win a b = false → ¬ bits .andNot .u64 (a.toNat : Int) (b.toNat : Int) = 0 := by
  intro h h2
  rw [andNot_bv] at h2
  unfold win at h
  rw [beq_eq_false_iff_ne] at h
  exact h (BitVec.eq_of_toNat_eq (by simpa using (by omega : (a &&& ~~~b).toNat = 0)))

set_option maxRecDepth 100000 in
set_option maxHeartbeats 2000000 in
theorem lneeds_any (s1 t1 s2 t2 s3 t3 m : BitVec 64) (w : World) (hg : gTop ≤ w.heap.size) (hl : Laid w) :
    Calls Tryd.prog 11 #[Lab s1 t1, Lab s2 t2, Lab s3 t3, U m] w fun e w' => e = .returned (.bool true) ∧ Below w.heap.size w w' := by
  have HAL := Lib.hid (fun W (h : Below w.heap.size w W) => lalive_any W (Nat.le_trans hg h.size) (hl.below h))
  have hH := more2 (U s3) (U t3) (more1 (U s2) (U t2) (more0 (U s1) (U t1) (Lib.hid (Below.refl w.heap.size w))))
  simp only [World.size_alloc] at hH
  have nab := fun W => need_at s1 t1 s2 t2 W
  have nac := fun W => need_at s1 t1 s3 t3 W
  have nbc := fun W => need_at s2 t2 s3 t3 W
  have wn := fun W => with_at s1 t1 s2 t2 (need s1 t1 s2 t2) W
  have wm := fun W => with_at s1 t1 s2 t2 m W
  have wnm := fun W => with_at s1 t1 s2 t2 (need s1 t1 s2 t2 ||| m) W
  have fab := fun W => flow_any s1 t1 s2 t2 W
  have h3 := need_three s1 t1 s2 t2 s3 t3
  have hfl : flow s1 t1 s2 t2 = (need s1 t1 s2 t2 == 0#64) := rfl
  obtain ⟨n, hn⟩ : ∃ n, need s1 t1 s2 t2 = n := ⟨_, rfl⟩
  obtain ⟨k, hk⟩ : ∃ n, need s1 t1 s3 t3 = n := ⟨_, rfl⟩
  obtain ⟨j, hj⟩ : ∃ n, need s2 t2 s3 t3 = n := ⟨_, rfl⟩
  rw [hn] at hfl
  simp only [hn, win_refl, win_or, hfl] at nab wn wm wnm fab
  simp only [hk] at nac
  simp only [hj] at nbc
  rw [hn, hk, hj] at h3
  have hor : bits .or .u64 (n.toNat : Int) (m.toNat : Int) = ((n ||| m).toNat : Int) := or_bv n m
  have hwnm : ∀ W, Calls Tryd.prog 43 #[.agg #[U s1, U t1], .agg #[U s2, U t2], .int .u64 (bits .or .u64 (n.toNat : Int) (m.toNat : Int))] W fun e w' => e = .returned (.bool true) ∧ Below W.heap.size W w' := by rw [hor]; exact wnm
  have hend : bits .andNot .u64 (k.toNat : Int) (bits .or .u64 (n.toNat : Int) (j.toNat : Int)) = 0 := by rw [or_bv]; exact andNot_zero _ _ h3
  obtain ⟨z, hz⟩ : ∃ z, (n == 0#64) = z := ⟨_, rfl⟩
  have hzi : ((n.toNat : Int) == 0) = z := (zero_bv n).trans hz
  obtain ⟨x, hx⟩ : ∃ x, win n m = x := ⟨_, rfl⟩
  simp only [hz] at fab
  simp only [hx] at wm
  have NAB := Lib.hid nab
  have NAC := Lib.hid nac
  have NBC := Lib.hid nbc
  have WN := Lib.hid wn
  have WM := Lib.hid wm
  have WNM := Lib.hid hwnm
  have FAB := Lib.hid fab
  have HEND := Lib.hid hend
  have HX := Lib.hid hx
  have H0 := Lib.hid hH
  clear nab nac nbc wn wm wnm fab hwnm hend hor h3 hfl hn hk hj hz hx hl hH
  go_enter Tryd.func11, Tryd.ntmps11
  go_wp2_with fail
  refine (HAL.out _ (last3 H0.out)).mono ?_
  rintro e w1 ⟨rfl, hb⟩
  have hH := keep3 H0.out hb
  clear hb H0
  cases x
  · have hne := andNot_some n m HX.out
    cases z
    all_goals
      go_wp2_with (first
        | (go_at_call_of 42 (#[.agg #[U s1, U t1], .agg #[U s2, U t2]] : Array Value); refine (NAB.out _).mono ?_; rintro e w' ⟨rfl, hb⟩; replace hH := keep3 hH hb; clear hb)
        | (go_at_call_of 42 (#[.agg #[U s1, U t1], .agg #[U s3, U t3]] : Array Value); refine (NAC.out _).mono ?_; rintro e w' ⟨rfl, hb⟩; replace hH := keep3 hH hb; clear hb)
        | (go_at_call_of 42 (#[.agg #[U s2, U t2], .agg #[U s3, U t3]] : Array Value); refine (NBC.out _).mono ?_; rintro e w' ⟨rfl, hb⟩; replace hH := keep3 hH hb; clear hb)
        | (go_at_call_of 43 (#[.agg #[U s1, U t1], .agg #[U s2, U t2], U n] : Array Value); refine (WN.out _).mono ?_; rintro e w' ⟨rfl, hb⟩; replace hH := keep3 hH hb; clear hb)
        | (go_at_call_of 43 (#[.agg #[U s1, U t1], .agg #[U s2, U t2], U m] : Array Value); refine (WM.out _).mono ?_; rintro e w' ⟨rfl, hb⟩; replace hH := keep3 hH hb; clear hb)
        | (go_at_call 43; refine (WNM.out _).mono ?_; rintro e w' ⟨rfl, hb⟩; replace hH := keep3 hH hb; clear hb)
        | (go_at_call 39; refine (FAB.out _).mono ?_; rintro e w' ⟨rfl, hb⟩; replace hH := keep3 hH hb; clear hb))
      all_goals
        have H1 := Lib.hid (keep3 hH ((Below.refl _ _).drew))
        clear hH
        have hend := HEND.out
        go_region_held3 (fun W => W.cell? ⟨w.heap.size, 0, none⟩ = some (U s1) ∧ W.cell? ⟨w.heap.size, 1, none⟩ = some (U t1) ∧ W.cell? ⟨w.heap.size + 1, 0, none⟩ = some (U s2) ∧ W.cell? ⟨w.heap.size + 1, 1, none⟩ = some (U t2) ∧ W.cell? ⟨w.heap.size + 1 + 1, 0, none⟩ = some (U s3) ∧ W.cell? ⟨w.heap.size + 1 + 1, 1, none⟩ = some (U t3) ∧ Hid (Below w.heap.size w W)) (first | exact H1.out | exact keep3 (by assumption) (by assumption))
          (first
          | (go_at_call_of 42 (#[.agg #[U s1, U t1], .agg #[U s2, U t2]] : Array Value); refine (NAB.out _).mono ?_; rintro e w' ⟨rfl, hb⟩)
          | (go_at_call_of 42 (#[.agg #[U s1, U t1], .agg #[U s3, U t3]] : Array Value); refine (NAC.out _).mono ?_; rintro e w' ⟨rfl, hb⟩)
          | (go_at_call_of 42 (#[.agg #[U s2, U t2], .agg #[U s3, U t3]] : Array Value); refine (NBC.out _).mono ?_; rintro e w' ⟨rfl, hb⟩))
        all_goals
          go_wp2
          go_ret
          exact ⟨rfl, last3 (by assumption)⟩
  · have hz0 := andNot_zero n m HX.out
    cases z
    all_goals
      go_wp2_with (first
        | (go_at_call_of 42 (#[.agg #[U s1, U t1], .agg #[U s2, U t2]] : Array Value); refine (NAB.out _).mono ?_; rintro e w' ⟨rfl, hb⟩; replace hH := keep3 hH hb; clear hb)
        | (go_at_call_of 42 (#[.agg #[U s1, U t1], .agg #[U s3, U t3]] : Array Value); refine (NAC.out _).mono ?_; rintro e w' ⟨rfl, hb⟩; replace hH := keep3 hH hb; clear hb)
        | (go_at_call_of 42 (#[.agg #[U s2, U t2], .agg #[U s3, U t3]] : Array Value); refine (NBC.out _).mono ?_; rintro e w' ⟨rfl, hb⟩; replace hH := keep3 hH hb; clear hb)
        | (go_at_call_of 43 (#[.agg #[U s1, U t1], .agg #[U s2, U t2], U n] : Array Value); refine (WN.out _).mono ?_; rintro e w' ⟨rfl, hb⟩; replace hH := keep3 hH hb; clear hb)
        | (go_at_call_of 43 (#[.agg #[U s1, U t1], .agg #[U s2, U t2], U m] : Array Value); refine (WM.out _).mono ?_; rintro e w' ⟨rfl, hb⟩; replace hH := keep3 hH hb; clear hb)
        | (go_at_call 43; refine (WNM.out _).mono ?_; rintro e w' ⟨rfl, hb⟩; replace hH := keep3 hH hb; clear hb)
        | (go_at_call 39; refine (FAB.out _).mono ?_; rintro e w' ⟨rfl, hb⟩; replace hH := keep3 hH hb; clear hb))
      all_goals
        have H1 := Lib.hid (keep3 hH ((Below.refl _ _).drew))
        clear hH
        have hend := HEND.out
        go_region_held3 (fun W => W.cell? ⟨w.heap.size, 0, none⟩ = some (U s1) ∧ W.cell? ⟨w.heap.size, 1, none⟩ = some (U t1) ∧ W.cell? ⟨w.heap.size + 1, 0, none⟩ = some (U s2) ∧ W.cell? ⟨w.heap.size + 1, 1, none⟩ = some (U t2) ∧ W.cell? ⟨w.heap.size + 1 + 1, 0, none⟩ = some (U s3) ∧ W.cell? ⟨w.heap.size + 1 + 1, 1, none⟩ = some (U t3) ∧ Hid (Below w.heap.size w W)) (first | exact H1.out | exact keep3 (by assumption) (by assumption))
          (first
          | (go_at_call_of 42 (#[.agg #[U s1, U t1], .agg #[U s2, U t2]] : Array Value); refine (NAB.out _).mono ?_; rintro e w' ⟨rfl, hb⟩)
          | (go_at_call_of 42 (#[.agg #[U s1, U t1], .agg #[U s3, U t3]] : Array Value); refine (NAC.out _).mono ?_; rintro e w' ⟨rfl, hb⟩)
          | (go_at_call_of 42 (#[.agg #[U s2, U t2], .agg #[U s3, U t3]] : Array Value); refine (NBC.out _).mono ?_; rintro e w' ⟨rfl, hb⟩))
        all_goals
          go_wp2
          go_ret
          exact ⟨rfl, last3 (by assumption)⟩
end Go.Proofs.YtegjlgdbipfpaaaDoor
