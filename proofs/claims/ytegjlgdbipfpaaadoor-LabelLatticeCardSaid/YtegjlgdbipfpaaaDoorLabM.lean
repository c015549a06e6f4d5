/-
  concordatlaw07.LabelLattice returns true: its walk.
-/
import Derived.Test.YtegjlgdbipfpaaaDoorLabN
import Derived.Deep.RegionHeld3
namespace Go.Proofs.YtegjlgdbipfpaaaDoor
open Go Go.RowKit

theorem lat_bits (a b : BitVec 64) : a ||| (a &&& b) = a ∧ a &&& (a ||| b) = a := by
  refine ⟨?_, ?_⟩ <;>
  · apply BitVec.eq_of_getLsbD_eq
    intro i hi
    simp only [BitVec.getLsbD_or, BitVec.getLsbD_and]
    cases a.getLsbD i <;> cases b.getLsbD i <;> rfl
theorem win_and (a b o : BitVec 64) : win o (a &&& b) = (win o a && win o b) := by
  rw [Bool.eq_iff_iff, Bool.and_eq_true, win_iff, win_iff, win_iff]
  constructor
  · intro h
    refine ⟨fun i hi hx => ?_, fun i hi hx => ?_⟩ <;>
    · have := h i hi hx
      rw [BitVec.getLsbD_and, Bool.and_eq_true] at this
      first | exact this.1 | exact this.2
  · rintro ⟨h1, h2⟩ i hi hx
    rw [BitVec.getLsbD_and, h1 i hi hx, h2 i hi hx]
    rfl
theorem flow_eq (s t s' t' : BitVec 64) : flow s t s' t' = (win s s' && win t' t) := by
  rw [Bool.eq_iff_iff, Bool.and_eq_true, flow_iff]
theorem flow_join (s1 t1 s2 t2 s3 t3 : BitVec 64) : flow (s1 ||| s2) (t1 &&& t2) s3 t3 = (flow s1 t1 s3 t3 && flow s2 t2 s3 t3) := by
  rw [flow_eq, flow_eq, flow_eq, win_join, win_and]
  cases win s1 s3 <;> cases win s2 s3 <;> cases win t3 t1 <;> cases win t3 t2 <;> rfl
theorem flow_meet (s1 t1 s2 t2 s3 t3 : BitVec 64) : flow s3 t3 (s1 &&& s2) (t1 ||| t2) = (flow s3 t3 s1 t1 && flow s3 t3 s2 t2) := by
  rw [flow_eq, flow_eq, flow_eq, win_join, win_and]
  cases win s3 s1 <;> cases win s3 s2 <;> cases win t1 t3 <;> cases win t2 t3 <;> rfl

set_option maxRecDepth 100000 in
set_option maxHeartbeats 4000000 in
theorem llattice_any (s1 t1 s2 t2 s3 t3 : BitVec 64) (w : World) (hg : gTop ≤ w.heap.size) (hl : Laid w) :
    Calls Tryd.prog 10 #[Lab s1 t1, Lab s2 t2, Lab s3 t3] w fun e w' => e = .returned (.bool true) ∧ Below w.heap.size w w' := by
  have HAL := Lib.hid (fun W (h : Below w.heap.size w W) => lalive_any W (Nat.le_trans hg h.size) (hl.below h))
  have hH := more2 (U s3) (U t3) (more1 (U s2) (U t2) (more0 (U s1) (U t1) (Lib.hid (Below.refl w.heap.size w))))
  simp only [World.size_alloc] at hH
  have jab := fun W => join_at s1 t1 s2 t2 W
  have jba := fun W => join_at s2 t2 s1 t1 W
  have mab := fun W => meet_at s1 t1 s2 t2 W
  have mba := fun W => meet_at s2 t2 s1 t1 W
  simp only [BitVec.or_comm s2 s1, BitVec.and_comm t2 t1] at jba
  simp only [BitVec.and_comm s2 s1, BitVec.or_comm t2 t1] at mba
  have faj := fun W => flow_any s1 t1 (s1 ||| s2) (t1 &&& t2) W
  have fbj := fun W => flow_any s2 t2 (s1 ||| s2) (t1 &&& t2) W
  have fma := fun W => flow_any (s1 &&& s2) (t1 ||| t2) s1 t1 W
  have fmb := fun W => flow_any (s1 &&& s2) (t1 ||| t2) s2 t2 W
  have hfj : flow s1 t1 (s1 ||| s2) (t1 &&& t2) = true ∧ flow s2 t2 (s1 ||| s2) (t1 &&& t2) = true := by
    have := flow_join s1 t1 s2 t2 (s1 ||| s2) (t1 &&& t2)
    rw [flow_refl] at this
    exact Bool.and_eq_true_iff.1 this.symm
  have hfm : flow (s1 &&& s2) (t1 ||| t2) s1 t1 = true ∧ flow (s1 &&& s2) (t1 ||| t2) s2 t2 = true := by
    have := flow_meet s1 t1 s2 t2 (s1 &&& s2) (t1 ||| t2)
    rw [flow_refl] at this
    exact Bool.and_eq_true_iff.1 this.symm
  simp only [hfj.1] at faj
  simp only [hfj.2] at fbj
  simp only [hfm.1] at fma
  simp only [hfm.2] at fmb
  have fac := fun W => flow_any s1 t1 s3 t3 W
  have fbc := fun W => flow_any s2 t2 s3 t3 W
  have fjc := fun W => flow_any (s1 ||| s2) (t1 &&& t2) s3 t3 W
  have fca := fun W => flow_any s3 t3 s1 t1 W
  have fcb := fun W => flow_any s3 t3 s2 t2 W
  have fcm := fun W => flow_any s3 t3 (s1 &&& s2) (t1 ||| t2) W
  simp only [flow_join] at fjc
  simp only [flow_meet] at fcm
  have jam := fun W => join_at s1 t1 (s1 &&& s2) (t1 ||| t2) W
  have maj := fun W => meet_at s1 t1 (s1 ||| s2) (t1 &&& t2) W
  simp only [(lat_bits s1 s2).1, (lat_bits t1 t2).2] at jam
  simp only [(lat_bits s1 s2).2, (lat_bits t1 t2).1] at maj
  have jjc := fun W => join_at (s1 ||| s2) (t1 &&& t2) s3 t3 W
  have jbc := fun W => join_at s2 t2 s3 t3 W
  have jax := fun W => join_at s1 t1 (s2 ||| s3) (t2 &&& t3) W
  have mmc := fun W => meet_at (s1 &&& s2) (t1 ||| t2) s3 t3 W
  have mbc := fun W => meet_at s2 t2 s3 t3 W
  have may := fun W => meet_at s1 t1 (s2 &&& s3) (t2 ||| t3) W
  simp only [BitVec.or_assoc, BitVec.and_assoc] at jjc mmc
  obtain ⟨x, hx⟩ : ∃ p, s2 ||| s3 = p := ⟨_, rfl⟩
  obtain ⟨y, hy⟩ : ∃ p, t2 &&& t3 = p := ⟨_, rfl⟩
  obtain ⟨x', hx'⟩ : ∃ p, s2 &&& s3 = p := ⟨_, rfl⟩
  obtain ⟨y', hy'⟩ : ∃ p, t2 ||| t3 = p := ⟨_, rfl⟩
  simp only [hx, hy] at jjc jbc jax
  simp only [hx', hy'] at mmc mbc may
  obtain ⟨z, hz⟩ : ∃ p, s1 ||| x = p := ⟨_, rfl⟩
  obtain ⟨k, hk⟩ : ∃ p, t1 &&& y = p := ⟨_, rfl⟩
  obtain ⟨z', hz'⟩ : ∃ p, s1 &&& x' = p := ⟨_, rfl⟩
  obtain ⟨k', hk'⟩ : ∃ p, t1 ||| y' = p := ⟨_, rfl⟩
  simp only [hz, hk] at jjc jax
  simp only [hz', hk'] at mmc may
  obtain ⟨p, hp⟩ : ∃ p, s1 ||| s2 = p := ⟨_, rfl⟩
  obtain ⟨q, hq⟩ : ∃ q, t1 &&& t2 = q := ⟨_, rfl⟩
  obtain ⟨u, hu⟩ : ∃ p, s1 &&& s2 = p := ⟨_, rfl⟩
  obtain ⟨v, hv⟩ : ∃ q, t1 ||| t2 = q := ⟨_, rfl⟩
  simp only [hp, hq] at jab jba faj fbj fjc maj jjc
  simp only [hu, hv] at mab mba fma fmb fcm jam mmc
  obtain ⟨f1, hf1⟩ : ∃ p, flow s1 t1 s3 t3 = p := ⟨_, rfl⟩
  obtain ⟨f2, hf2⟩ : ∃ p, flow s2 t2 s3 t3 = p := ⟨_, rfl⟩
  obtain ⟨f3, hf3⟩ : ∃ p, flow s3 t3 s1 t1 = p := ⟨_, rfl⟩
  obtain ⟨f4, hf4⟩ : ∃ p, flow s3 t3 s2 t2 = p := ⟨_, rfl⟩
  obtain ⟨f5, hf5⟩ : ∃ p, (f1 && f2) = p := ⟨_, rfl⟩
  obtain ⟨f6, hf6⟩ : ∃ p, (f3 && f4) = p := ⟨_, rfl⟩
  simp only [hf1, hf2, hf5] at fac fbc fjc
  simp only [hf3, hf4, hf6] at fca fcb fcm
  have hc1 : (f1 = false ∧ f5 = false) ∨ (f1 = true ∧ f2 = false ∧ f5 = false) ∨ (f1 = true ∧ f2 = true ∧ f5 = true) := by
    subst hf5; cases f1 <;> cases f2 <;> simp
  have hc2 : (f3 = false ∧ f6 = false) ∨ (f3 = true ∧ f4 = false ∧ f6 = false) ∨ (f3 = true ∧ f4 = true ∧ f6 = true) := by
    subst hf6; cases f3 <;> cases f4 <;> simp
  have HC1 := Lib.hid hc1
  have HC2 := Lib.hid hc2
  have JAB := Lib.hid jab
  have JBA := Lib.hid jba
  have MAB := Lib.hid mab
  have MBA := Lib.hid mba
  have FAJ := Lib.hid faj
  have FBJ := Lib.hid fbj
  have FMA := Lib.hid fma
  have FMB := Lib.hid fmb
  have FAC := Lib.hid fac
  have FBC := Lib.hid fbc
  have FJC := Lib.hid fjc
  have FCA := Lib.hid fca
  have FCB := Lib.hid fcb
  have FCM := Lib.hid fcm
  have JAM := Lib.hid jam
  have MAJ := Lib.hid maj
  have JJC := Lib.hid jjc
  have JBC := Lib.hid jbc
  have JAX := Lib.hid jax
  have MMC := Lib.hid mmc
  have MBC := Lib.hid mbc
  have MAY := Lib.hid may
  have H0 := Lib.hid hH
  clear jab jba mab mba faj fbj fma fmb fac fbc fjc fca fcb fcm jam maj jjc jbc jax mmc mbc may hfj hfm hx hy hx' hy' hz hk hz' hk' hp hq hu hv hf1 hf2 hf3 hf4 hf5 hf6 hc1 hc2 hH hl
  go_enter Tryd.func10, Tryd.ntmps10
  go_wp2_with fail
  refine (HAL.out _ (last3 H0.out)).mono ?_
  rintro e w1 ⟨rfl, hb⟩
  have hH := keep3 H0.out hb
  clear hb H0
  go_wp2_with fail
  refine (JAB.out _).mono ?_
  rintro e w2 ⟨rfl, hb⟩
  have hH2 := more3 (U p) (U q) (keep3 hH hb)
  clear hb hH
  go_wp2_with fail
  refine (MAB.out _).mono ?_
  rintro e w3 ⟨rfl, hb⟩
  have hH := more4 (U u) (U v) (keep4 hH2 hb)
  clear hb hH2
  go_wp2_with fail
  obtain ⟨w4, hw4⟩ : ∃ w4, w3.alloc (.cells #[U u, U v] 53) = w4 := ⟨_, rfl⟩
  rw [hw4] at hH ⊢
  have H1 := Lib.hid (keep5 hH ((Below.refl _ _).drew))
  clear hH
  go_region_held3 (fun W => W.cell? ⟨w.heap.size, 0, none⟩ = some (U s1) ∧ W.cell? ⟨w.heap.size, 1, none⟩ = some (U t1) ∧ W.cell? ⟨w.heap.size + 1, 0, none⟩ = some (U s2) ∧ W.cell? ⟨w.heap.size + 1, 1, none⟩ = some (U t2) ∧ W.cell? ⟨w.heap.size + 1 + 1, 0, none⟩ = some (U s3) ∧ W.cell? ⟨w.heap.size + 1 + 1, 1, none⟩ = some (U t3) ∧ W.cell? ⟨w2.heap.size, 0, none⟩ = some (U p) ∧ W.cell? ⟨w2.heap.size, 1, none⟩ = some (U q) ∧ W.cell? ⟨w3.heap.size, 0, none⟩ = some (U u) ∧ W.cell? ⟨w3.heap.size, 1, none⟩ = some (U v) ∧ Hid (Below w.heap.size w W)) (first | exact H1.out | exact keep5 (by assumption) (by assumption))
    (first
    | (go_at_call_of 39 (#[.agg #[U s1, U t1], .agg #[U p, U q]] : Array Value); refine (FAJ.out _).mono ?_; rintro e w' ⟨rfl, hb⟩)
    | (go_at_call_of 39 (#[.agg #[U s2, U t2], .agg #[U p, U q]] : Array Value); refine (FBJ.out _).mono ?_; rintro e w' ⟨rfl, hb⟩)
    | (go_at_call_of 39 (#[.agg #[U u, U v], .agg #[U s1, U t1]] : Array Value); refine (FMA.out _).mono ?_; rintro e w' ⟨rfl, hb⟩)
    | (go_at_call_of 39 (#[.agg #[U u, U v], .agg #[U s2, U t2]] : Array Value); refine (FMB.out _).mono ?_; rintro e w' ⟨rfl, hb⟩)
    | (go_at_call_of 40 (#[.agg #[U s2, U t2], .agg #[U s1, U t1]] : Array Value); refine (JBA.out _).mono ?_; rintro e w' ⟨rfl, hb⟩)
    | (go_at_call_of 41 (#[.agg #[U s2, U t2], .agg #[U s1, U t1]] : Array Value); refine (MBA.out _).mono ?_; rintro e w' ⟨rfl, hb⟩))
  have hH := H1.out
  clear H1 hH hw4
  rename_i hH
  go_wp2_with fail
  rename_i K2 hK2 K1 hK1 K0 hK0
  have key : ∀ (r53 r54 r55 r56 r57 r58 r59 r60 r61 r62 r63 r64 r65 r66 r67 r68 r69 r70 r71 r72 r73 r74 r75 r76 r77 r78 r79 r80 r81 r82 : Value) (W : World), (W.cell? ⟨w.heap.size, 0, none⟩ = some (U s1) ∧ W.cell? ⟨w.heap.size, 1, none⟩ = some (U t1) ∧ W.cell? ⟨w.heap.size + 1, 0, none⟩ = some (U s2) ∧ W.cell? ⟨w.heap.size + 1, 1, none⟩ = some (U t2) ∧ W.cell? ⟨w.heap.size + 1 + 1, 0, none⟩ = some (U s3) ∧ W.cell? ⟨w.heap.size + 1 + 1, 1, none⟩ = some (U t3) ∧ W.cell? ⟨w2.heap.size, 0, none⟩ = some (U p) ∧ W.cell? ⟨w2.heap.size, 1, none⟩ = some (U q) ∧ W.cell? ⟨w3.heap.size, 0, none⟩ = some (U u) ∧ W.cell? ⟨w3.heap.size, 1, none⟩ = some (U v) ∧ Hid (Below w.heap.size w W)) →
      K2 { tmps := #[Lab s1 t1, Lab s2 t2, Lab s3 t3, Value.pointer (some ⟨w.heap.size, 0, none⟩), Value.pointer (some ⟨w.heap.size + 1, 0, none⟩), Value.pointer (some ⟨w.heap.size + 1 + 1, 0, none⟩), Value.bool false, Value.pointer (some ⟨w2.heap.size, 0, none⟩), Value.pointer (some ⟨w3.heap.size, 0, none⟩), Value.bool true, Value.bool false, Value.agg #[U s1, U t1], Value.agg #[U s2, U t2], Value.agg #[U p, U q], Value.agg #[U s1, U t1], Value.agg #[U s2, U t2], Value.agg #[U u, U v], Value.agg #[U s1, U t1], Value.agg #[U p, U q], Value.bool true, Value.bool false, Value.bool false, Value.agg #[U s2, U t2], Value.agg #[U p, U q], Value.bool true, Value.bool false, Value.bool false, Value.bool false, Value.agg #[U u, U v], Value.agg #[U s1, U t1], Value.bool true, Value.bool false, Value.bool false, Value.bool false, Value.agg #[U u, U v], Value.agg #[U s2, U t2], Value.bool true, Value.bool false, Value.bool false, Value.bool false, Value.agg #[U p, U q], Value.agg #[U s2, U t2], Value.agg #[U s1, U t1], Value.agg #[U p, U q], Value.bool false, Value.bool false, Value.bool false, Value.agg #[U u, U v], Value.agg #[U s2, U t2], Value.agg #[U s1, U t1], Value.agg #[U u, U v], Value.bool false, Value.bool false, r53, r54, r55, r56, r57, r58, r59, r60, r61, r62, r63, r64, r65, r66, r67, r68, r69, r70, r71, r72, r73, r74, r75, r76, r77, r78, r79, r80, r81, r82, undef, undef, undef, undef, undef, undef, undef, undef, undef, undef, undef, undef, undef, undef, undef, undef, undef, undef, undef, undef, undef, undef, undef, undef, undef, undef, undef, undef, undef, undef, undef, undef, undef, undef], defers := [] } W := by
    intro r53 r54 r55 r56 r57 r58 r59 r60 r61 r62 r63 r64 r65 r66 r67 r68 r69 r70 r71 r72 r73 r74 r75 r76 r77 r78 r79 r80 r81 r82 W hS
    clear hH
    refine hK2 _ _ ?_
    clear hK0 hK1 hK2 K0 K1 K2
    go_wp2_with fail
    have H1 := Lib.hid (keep5 hS ((Below.refl _ _).drew))
    clear hS
    go_region_held3 (fun W => W.cell? ⟨w.heap.size, 0, none⟩ = some (U s1) ∧ W.cell? ⟨w.heap.size, 1, none⟩ = some (U t1) ∧ W.cell? ⟨w.heap.size + 1, 0, none⟩ = some (U s2) ∧ W.cell? ⟨w.heap.size + 1, 1, none⟩ = some (U t2) ∧ W.cell? ⟨w.heap.size + 1 + 1, 0, none⟩ = some (U s3) ∧ W.cell? ⟨w.heap.size + 1 + 1, 1, none⟩ = some (U t3) ∧ W.cell? ⟨w2.heap.size, 0, none⟩ = some (U p) ∧ W.cell? ⟨w2.heap.size, 1, none⟩ = some (U q) ∧ W.cell? ⟨w3.heap.size, 0, none⟩ = some (U u) ∧ W.cell? ⟨w3.heap.size, 1, none⟩ = some (U v) ∧ Hid (Below w.heap.size w W)) (first | exact H1.out | exact keep5 (by assumption) (by assumption))
      (first
      | (go_at_call_of 40 (#[.agg #[U s1, U t1], .agg #[U u, U v]] : Array Value); refine (JAM.out _).mono ?_; rintro e w' ⟨rfl, hb⟩)
      | (go_at_call_of 41 (#[.agg #[U s1, U t1], .agg #[U p, U q]] : Array Value); refine (MAJ.out _).mono ?_; rintro e w' ⟨rfl, hb⟩)
      | (go_at_call_of 40 (#[.agg #[U p, U q], .agg #[U s3, U t3]] : Array Value); refine (JJC.out _).mono ?_; rintro e w' ⟨rfl, hb⟩)
      | (go_at_call_of 40 (#[.agg #[U s2, U t2], .agg #[U s3, U t3]] : Array Value); refine (JBC.out _).mono ?_; rintro e w' ⟨rfl, hb⟩)
      | (go_at_call_of 40 (#[.agg #[U s1, U t1], .agg #[U x, U y]] : Array Value); refine (JAX.out _).mono ?_; rintro e w' ⟨rfl, hb⟩)
      | (go_at_call_of 41 (#[.agg #[U u, U v], .agg #[U s3, U t3]] : Array Value); refine (MMC.out _).mono ?_; rintro e w' ⟨rfl, hb⟩)
      | (go_at_call_of 41 (#[.agg #[U s2, U t2], .agg #[U s3, U t3]] : Array Value); refine (MBC.out _).mono ?_; rintro e w' ⟨rfl, hb⟩)
      | (go_at_call_of 41 (#[.agg #[U s1, U t1], .agg #[U x', U y']] : Array Value); refine (MAY.out _).mono ?_; rintro e w' ⟨rfl, hb⟩))
    all_goals
      go_wp2
      go_ret
      exact ⟨rfl, last5 (by assumption)⟩
  have KEY := Lib.hid key
  clear hK2 key
  rcases HC1.out with ⟨rfl, rfl⟩ | ⟨rfl, rfl, rfl⟩ | ⟨rfl, rfl, rfl⟩ <;> rcases HC2.out with ⟨rfl, rfl⟩ | ⟨rfl, rfl, rfl⟩ | ⟨rfl, rfl, rfl⟩
  all_goals
    refine (FAC.out _).mono ?_
    rintro e w' ⟨rfl, hb⟩
    replace hH := keep5 hH hb
    clear hb
    go_wp2_with (first
      | (go_at_call_of 39 (#[.agg #[U s1, U t1], .agg #[U s3, U t3]] : Array Value); refine (FAC.out _).mono ?_; rintro e w' ⟨rfl, hb⟩; replace hH := keep5 hH hb; clear hb)
      | (go_at_call_of 39 (#[.agg #[U s2, U t2], .agg #[U s3, U t3]] : Array Value); refine (FBC.out _).mono ?_; rintro e w' ⟨rfl, hb⟩; replace hH := keep5 hH hb; clear hb)
      | (go_at_call_of 39 (#[.agg #[U p, U q], .agg #[U s3, U t3]] : Array Value); refine (FJC.out _).mono ?_; rintro e w' ⟨rfl, hb⟩; replace hH := keep5 hH hb; clear hb)
      | (go_at_call_of 39 (#[.agg #[U s3, U t3], .agg #[U s1, U t1]] : Array Value); refine (FCA.out _).mono ?_; rintro e w' ⟨rfl, hb⟩; replace hH := keep5 hH hb; clear hb)
      | (go_at_call_of 39 (#[.agg #[U s3, U t3], .agg #[U s2, U t2]] : Array Value); refine (FCB.out _).mono ?_; rintro e w' ⟨rfl, hb⟩; replace hH := keep5 hH hb; clear hb)
      | (go_at_call_of 39 (#[.agg #[U s3, U t3], .agg #[U u, U v]] : Array Value); refine (FCM.out _).mono ?_; rintro e w' ⟨rfl, hb⟩; replace hH := keep5 hH hb; clear hb))
    exact KEY.out _ _ _ _ _ _ _ _ _ _ _ _ _ _ _ _ _ _ _ _ _ _ _ _ _ _ _ _ _ _ _ hH
end Go.Proofs.YtegjlgdbipfpaaaDoor
