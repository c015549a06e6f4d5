/-
  concordatlaw07.LabelJoins returns true: its walk.
-/
import Derived.Test.YtegjlgdbipfpaaaDoorLabN
import Derived.Deep.RegionHeld3
namespace Go.Proofs.YtegjlgdbipfpaaaDoor
open Go Go.RowKit

set_option maxRecDepth 100000 in
set_option maxHeartbeats 2000000 in
theorem ljoins_any (s1 t1 s2 t2 s3 t3 o : BitVec 64) (w : World) (hg : gTop ≤ w.heap.size) (hl : Laid w) :
    Calls Tryd.prog 14 #[Lab s1 t1, Lab s2 t2, Lab s3 t3, U o] w fun e w' => e = .returned (.bool true) ∧ Below w.heap.size w w' := by
  have HAL := Lib.hid (fun W (h : Below w.heap.size w W) => lalive_any W (Nat.le_trans hg h.size) (hl.below h))
  have hH := more2 (U s3) (U t3) (more1 (U s2) (U t2) (more0 (U s1) (U t1) (Lib.hid (Below.refl w.heap.size w))))
  simp only [World.size_alloc] at hH
  have jn := fun W => join_at s1 t1 s2 t2 W
  have mt := fun W => meet_at s1 t1 s2 t2 W
  have njc := fun W => need_at (s1 ||| s2) (t1 &&& t2) s3 t3 W
  have nac := fun W => need_at s1 t1 s3 t3 W
  have nbc := fun W => need_at s2 t2 s3 t3 W
  have ncm := fun W => need_at s3 t3 (s1 &&& s2) (t1 ||| t2) W
  have nca := fun W => need_at s3 t3 s1 t1 W
  have ncb := fun W => need_at s3 t3 s2 t2 W
  have wjc := fun W => with_at (s1 ||| s2) (t1 &&& t2) s3 t3 o W
  have wac := fun W => with_at s1 t1 s3 t3 o W
  have wbc := fun W => with_at s2 t2 s3 t3 o W
  simp only [need_join, win_join] at njc wjc
  simp only [need_meet] at ncm
  obtain ⟨p, hp⟩ : ∃ p, s1 ||| s2 = p := ⟨_, rfl⟩
  obtain ⟨q, hq⟩ : ∃ q, t1 &&& t2 = q := ⟨_, rfl⟩
  obtain ⟨u, hu⟩ : ∃ p, s1 &&& s2 = p := ⟨_, rfl⟩
  obtain ⟨v, hv⟩ : ∃ q, t1 ||| t2 = q := ⟨_, rfl⟩
  simp only [hp, hq] at jn njc wjc
  simp only [hu, hv] at mt ncm
  obtain ⟨x, hx⟩ : ∃ p, need s1 t1 s3 t3 = p := ⟨_, rfl⟩
  obtain ⟨y, hy⟩ : ∃ p, need s2 t2 s3 t3 = p := ⟨_, rfl⟩
  obtain ⟨x', hx'⟩ : ∃ p, need s3 t3 s1 t1 = p := ⟨_, rfl⟩
  obtain ⟨y', hy'⟩ : ∃ p, need s3 t3 s2 t2 = p := ⟨_, rfl⟩
  simp only [hx, hy] at njc nac nbc wjc wac wbc
  simp only [hx', hy'] at nca ncb ncm
  obtain ⟨f, hf⟩ : ∃ p, win x o = p := ⟨_, rfl⟩
  obtain ⟨g, hgg⟩ : ∃ p, win y o = p := ⟨_, rfl⟩
  simp only [hf, hgg] at wjc wac wbc
  have ho1 := or_bv x y
  have ho2 := or_bv x' y'
  obtain ⟨z, hz⟩ : ∃ p, x ||| y = p := ⟨_, rfl⟩
  obtain ⟨z', hz'⟩ : ∃ p, x' ||| y' = p := ⟨_, rfl⟩
  rw [hz] at ho1
  rw [hz'] at ho2
  simp only [hz] at njc
  simp only [hz'] at ncm
  have JN := Lib.hid jn
  have MT := Lib.hid mt
  have NJC := Lib.hid njc
  have NAC := Lib.hid nac
  have NBC := Lib.hid nbc
  have NCM := Lib.hid ncm
  have NCA := Lib.hid nca
  have NCB := Lib.hid ncb
  have WJC := Lib.hid wjc
  have WAC := Lib.hid wac
  have WBC := Lib.hid wbc
  have HO1 := Lib.hid ho1
  have HO2 := Lib.hid ho2
  have H0 := Lib.hid hH
  clear jn mt njc nac nbc ncm nca ncb wjc wac wbc ho1 ho2 hp hq hu hv hx hy hx' hy' hf hgg hz hz' hH hl
  go_enter Tryd.func14, Tryd.ntmps14
  go_wp2_with fail
  refine (HAL.out _ (last3 H0.out)).mono ?_
  rintro e w1 ⟨rfl, hb⟩
  have hH := keep3 H0.out hb
  clear hb H0
  go_wp2_with fail
  refine (JN.out _).mono ?_
  rintro e w2 ⟨rfl, hb⟩
  have hH2 := more3 (U p) (U q) (keep3 hH hb)
  clear hb hH
  go_wp2_with fail
  refine (MT.out _).mono ?_
  rintro e w3 ⟨rfl, hb⟩
  have hH := more4 (U u) (U v) (keep4 hH2 hb)
  clear hb hH2
  have ho1 := HO1.out
  have ho2 := HO2.out
  cases f <;> cases g
  all_goals
    go_wp2_with fail
    have H1 := Lib.hid (keep5 hH ((Below.refl _ _).drew))
    clear hH
    obtain ⟨w4, hw4⟩ : ∃ w4, w3.alloc (.cells #[U u, U v] 53) = w4 := ⟨_, rfl⟩
    rw [hw4] at H1 ⊢
    first
    | (go_region_held3 (fun W => W.cell? ⟨w.heap.size, 0, none⟩ = some (U s1) ∧ W.cell? ⟨w.heap.size, 1, none⟩ = some (U t1) ∧ W.cell? ⟨w.heap.size + 1, 0, none⟩ = some (U s2) ∧ W.cell? ⟨w.heap.size + 1, 1, none⟩ = some (U t2) ∧ W.cell? ⟨w.heap.size + 1 + 1, 0, none⟩ = some (U s3) ∧ W.cell? ⟨w.heap.size + 1 + 1, 1, none⟩ = some (U t3) ∧ W.cell? ⟨w2.heap.size, 0, none⟩ = some (U p) ∧ W.cell? ⟨w2.heap.size, 1, none⟩ = some (U q) ∧ W.cell? ⟨w3.heap.size, 0, none⟩ = some (U u) ∧ W.cell? ⟨w3.heap.size, 1, none⟩ = some (U v) ∧ Hid (Below w.heap.size w W)) (first | assumption | exact H1.out | exact keep5 (by assumption) (by assumption))
      (first
      | (go_at_call_of 42 (#[.agg #[U p, U q], .agg #[U s3, U t3]] : Array Value); refine (NJC.out _).mono ?_; rintro e w' ⟨rfl, hb⟩)
      | (go_at_call_of 42 (#[.agg #[U s1, U t1], .agg #[U s3, U t3]] : Array Value); refine (NAC.out _).mono ?_; rintro e w' ⟨rfl, hb⟩)
      | (go_at_call_of 42 (#[.agg #[U s2, U t2], .agg #[U s3, U t3]] : Array Value); refine (NBC.out _).mono ?_; rintro e w' ⟨rfl, hb⟩)
      | (go_at_call_of 42 (#[.agg #[U s3, U t3], .agg #[U u, U v]] : Array Value); refine (NCM.out _).mono ?_; rintro e w' ⟨rfl, hb⟩)
      | (go_at_call_of 42 (#[.agg #[U s3, U t3], .agg #[U s1, U t1]] : Array Value); refine (NCA.out _).mono ?_; rintro e w' ⟨rfl, hb⟩)
      | (go_at_call_of 42 (#[.agg #[U s3, U t3], .agg #[U s2, U t2]] : Array Value); refine (NCB.out _).mono ?_; rintro e w' ⟨rfl, hb⟩)
      | (go_at_call_of 43 (#[.agg #[U p, U q], .agg #[U s3, U t3], U o] : Array Value); refine (WJC.out _).mono ?_; rintro e w' ⟨rfl, hb⟩)
      | (go_at_call_of 43 (#[.agg #[U s1, U t1], .agg #[U s3, U t3], U o] : Array Value); refine (WAC.out _).mono ?_; rintro e w' ⟨rfl, hb⟩)
      | (go_at_call_of 43 (#[.agg #[U s2, U t2], .agg #[U s3, U t3], U o] : Array Value); refine (WBC.out _).mono ?_; rintro e w' ⟨rfl, hb⟩)))
    | fail
    all_goals
      go_wp2
      go_ret
      exact ⟨rfl, last5 (by assumption)⟩
end Go.Proofs.YtegjlgdbipfpaaaDoor
