/-
  concordatlaw07.LabelRaises returns true: its walk.
-/
import Derived.Test.YtegjlgdbipfpaaaDoorLabI
namespace Go.Proofs.YtegjlgdbipfpaaaDoor
open Go Go.RowKit

theorem raise_at (s t m d : BitVec 64) (w : World) : Calls Tryd.prog 44 #[.agg #[U s, U t], U m, U d] w fun e w' => e = .returned (.agg #[U (s ||| m), U (t &&& ~~~d)]) ∧ Below w.heap.size w w' := raise_any s t m d w
theorem raise_back (s t m d : BitVec 64) : win (need (s ||| m) (t &&& ~~~d) s t) (m ||| d) = true := by
  rw [win_iff]
  intro i hi
  simp only [need, BitVec.getLsbD_or, BitVec.getLsbD_and, BitVec.getLsbD_not, hi, decide_true, Bool.true_and]
  cases s.getLsbD i <;> cases t.getLsbD i <;> cases m.getLsbD i <;> cases d.getLsbD i <;> simp
theorem raise_flow (s t m d : BitVec 64) : flow s t (s ||| m) (t &&& ~~~d) = true := by
  rw [flow_iff]
  exact ⟨win_or s m, minus_within t d⟩
theorem raise_twice (s t m d : BitVec 64) : s ||| m ||| m = s ||| m ∧ t &&& ~~~d &&& ~~~d = t &&& ~~~d := ⟨by rw [BitVec.or_assoc, BitVec.or_self], minus_twice t d⟩

set_option maxRecDepth 100000 in
set_option maxHeartbeats 2000000 in
theorem lraises_any (s t m d : BitVec 64) (w : World) (hg : gTop ≤ w.heap.size) (hl : Laid w) :
    Calls Tryd.prog 12 #[Lab s t, U m, U d] w fun e w' => e = .returned (.bool true) ∧ Below w.heap.size w w' := by
  have HAL := Lib.hid (fun W (h : Below w.heap.size w W) => lalive_any W (Nat.le_trans hg h.size) (hl.below h))
  have hH := more0 (U s) (U t) (Lib.hid (Below.refl w.heap.size w))
  have ra := fun W => raise_at s t m d W
  have rr := fun W => raise_at (s ||| m) (t &&& ~~~d) m d W
  have r0 : ∀ W, Calls Tryd.prog 44 #[.agg #[U s, U t], .int .u64 0, .int .u64 0] W fun e w' => e = .returned (.agg #[U s, U t]) ∧ Below W.heap.size W w' := fun W => by
    have := raise_at s t 0#64 0#64 W
    rw [BitVec.or_zero, show t &&& ~~~0#64 = t by rw [show (~~~0#64 : BitVec 64) = BitVec.allOnes 64 from rfl, BitVec.and_allOnes]] at this
    exact this
  have nr := fun W => need_at (s ||| m) (t &&& ~~~d) s t W
  have wr := fun W => with_at (s ||| m) (t &&& ~~~d) s t (m ||| d) W
  have fr := fun W => flow_any s t (s ||| m) (t &&& ~~~d) W
  have hb0 := raise_back s t m d
  simp only [raise_flow] at fr
  simp only [(raise_twice s t m d).1, (raise_twice s t m d).2] at rr
  simp only [hb0] at wr
  obtain ⟨p, hp⟩ : ∃ p, s ||| m = p := ⟨_, rfl⟩
  obtain ⟨q, hq⟩ : ∃ q, t &&& ~~~d = q := ⟨_, rfl⟩
  simp only [hp, hq] at ra rr nr wr fr hb0
  obtain ⟨k, hk⟩ : ∃ k, need p q s t = k := ⟨_, rfl⟩
  simp only [hk] at nr hb0
  have hor := or_bv m d
  have hwr : ∀ W, Calls Tryd.prog 43 #[.agg #[U p, U q], .agg #[U s, U t], .int .u64 (bits .or .u64 (m.toNat : Int) (d.toNat : Int))] W fun e w' => e = .returned (.bool true) ∧ Below W.heap.size W w' := by rw [hor]; exact wr
  have hend : bits .andNot .u64 (k.toNat : Int) (bits .or .u64 (m.toNat : Int) (d.toNat : Int)) = 0 := by rw [hor]; exact andNot_zero _ _ hb0
  have RA := Lib.hid ra
  have RR := Lib.hid rr
  have R0 := Lib.hid r0
  have NR := Lib.hid nr
  have WR := Lib.hid hwr
  have FR := Lib.hid fr
  have HEND := Lib.hid hend
  have H0 := Lib.hid hH
  clear ra rr r0 nr wr hwr fr hb0 hp hq hk hor hend hH hl
  go_enter Tryd.func12, Tryd.ntmps12
  go_wp2_with fail
  refine (HAL.out _ (last1 H0.out)).mono ?_
  rintro e w1 ⟨rfl, hb⟩
  have hH := keep1 H0.out hb
  clear hb H0
  go_wp2_with fail
  refine (RA.out _).mono ?_
  rintro e w2 ⟨rfl, hb⟩
  have hH2 := more1 (U p) (U q) (keep1 hH hb)
  clear hb hH
  have hH := hH2
  clear hH2
  have hend := HEND.out
  go_wp2_with (first
    | (go_at_call 42; refine (NR.out _).mono ?_; rintro e w' ⟨rfl, hb⟩; replace hH := keep2 hH hb; clear hb)
    | (go_at_call 39; refine (FR.out _).mono ?_; rintro e w' ⟨rfl, hb⟩; replace hH := keep2 hH hb; clear hb)
    | (go_at_call 43; refine (WR.out _).mono ?_; rintro e w' ⟨rfl, hb⟩; replace hH := keep2 hH hb; clear hb)
    | (go_at_call_of 44 (#[.agg #[U p, U q], U m, U d] : Array Value); refine (RR.out _).mono ?_; rintro e w' ⟨rfl, hb⟩; replace hH := keep2 hH hb; clear hb)
    | (go_at_call 44; refine (R0.out _).mono ?_; rintro e w' ⟨rfl, hb⟩; replace hH := keep2 hH hb; clear hb))
  have H1 := Lib.hid (keep2 hH ((Below.refl _ _).drew))
  clear hH
  go_region_held3 (fun W => W.cell? ⟨w.heap.size, 0, none⟩ = some (U s) ∧ W.cell? ⟨w.heap.size, 1, none⟩ = some (U t) ∧ W.cell? ⟨w2.heap.size, 0, none⟩ = some (U p) ∧ W.cell? ⟨w2.heap.size, 1, none⟩ = some (U q) ∧ Hid (Below w.heap.size w W)) (first | exact H1.out | exact keep2 (by assumption) (by assumption))
    (first
    | (go_at_call 39; refine (FR.out _).mono ?_; rintro e w' ⟨rfl, hb⟩)
    | (go_at_call 43; refine (WR.out _).mono ?_; rintro e w' ⟨rfl, hb⟩)
    | (go_at_call_of 44 (#[.agg #[U p, U q], U m, U d] : Array Value); refine (RR.out _).mono ?_; rintro e w' ⟨rfl, hb⟩)
    | (go_at_call 44; refine (R0.out _).mono ?_; rintro e w' ⟨rfl, hb⟩))
  all_goals
    go_wp2
    go_ret
    exact ⟨rfl, last2 (by assumption)⟩
end Go.Proofs.YtegjlgdbipfpaaaDoor
