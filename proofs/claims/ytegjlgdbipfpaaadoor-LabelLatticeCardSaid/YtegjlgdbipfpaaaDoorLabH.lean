/-
  concordatlaw07.LabelOrder returns true: its walk.
-/
import Derived.Test.YtegjlgdbipfpaaaDoorKeep
namespace Go.Proofs.YtegjlgdbipfpaaaDoor
open Go Go.RowKit

/-- Does a label flow to another one? -/
def flow (s t s' t' : BitVec 64) : Bool := need s t s' t' == 0#64
theorem or_zero {a b : BitVec 64} : a ||| b = 0#64 ↔ a = 0#64 ∧ b = 0#64 := by
  constructor
  · intro h
    refine ⟨?_, ?_⟩ <;>
    · apply BitVec.eq_of_getLsbD_eq
      intro i _
      have := congrArg (fun x => x.getLsbD i) h
      simp only [BitVec.getLsbD_or, BitVec.getLsbD_zero, Bool.or_eq_false_iff] at this
      simp [this]
  · rintro ⟨rfl, rfl⟩; simp
theorem flow_iff {s t s' t' : BitVec 64} : flow s t s' t' = true ↔ win s s' = true ∧ win t' t = true := by
  unfold flow need win
  rw [beq_iff_eq, beq_iff_eq, beq_iff_eq, or_zero]
theorem flow_refl (s t : BitVec 64) : flow s t s t = true := flow_iff.2 ⟨win_refl _, win_refl _⟩
theorem flow_trans {s t s' t' u v : BitVec 64} (h : flow s t s' t' = true) (k : flow s' t' u v = true) : flow s t u v = true :=
  flow_iff.2 ⟨win_trans (flow_iff.1 h).1 (flow_iff.1 k).1, win_trans (flow_iff.1 k).2 (flow_iff.1 h).2⟩
theorem flow_anti {s t s' t' : BitVec 64} (h : flow s t s' t' = true) (k : flow s' t' s t = true) : s = s' ∧ t = t' :=
  ⟨win_anti (flow_iff.1 h).1 (flow_iff.1 k).1, win_anti (flow_iff.1 k).2 (flow_iff.1 h).2⟩
theorem flow_any (s t s' t' : BitVec 64) (w : World) : Calls Tryd.prog 39 #[.agg #[U s, U t], .agg #[U s', U t']] w fun e w' => e = .returned (.bool (flow s t s' t')) ∧ Below w.heap.size w w' := flows_any s t s' t' w

set_option maxRecDepth 100000 in
set_option maxHeartbeats 2000000 in
theorem lorder_any (s1 t1 s2 t2 s3 t3 : BitVec 64) (w : World) (hg : gTop ≤ w.heap.size) (hl : Laid w) :
    Calls Tryd.prog 9 #[Lab s1 t1, Lab s2 t2, Lab s3 t3] w fun e w' => e = .returned (.bool true) ∧ Below w.heap.size w w' := by
  have HAL := Lib.hid (fun W (h : Below w.heap.size w W) => lalive_any W (Nat.le_trans hg h.size) (hl.below h))
  have hH := more2 (U s3) (U t3) (more1 (U s2) (U t2) (more0 (U s1) (U t1) (Lib.hid (Below.refl w.heap.size w))))
  simp only [World.size_alloc] at hH
  have FAA := Lib.hid (fun W => (flow_refl s1 t1) ▸ flow_any s1 t1 s1 t1 W)
  have FAB := Lib.hid (fun W => flow_any s1 t1 s2 t2 W)
  have FBA := Lib.hid (fun W => flow_any s2 t2 s1 t1 W)
  have FBC := Lib.hid (fun W => flow_any s2 t2 s3 t3 W)
  have FAC := Lib.hid (fun W => flow_any s1 t1 s3 t3 W)
  have htr : ∀ f g h : Bool, flow s1 t1 s2 t2 = f → flow s2 t2 s3 t3 = g → flow s1 t1 s3 t3 = h → f = true → g = true → h = true := by
    rintro f g h rfl rfl rfl hf hg; exact flow_trans hf hg
  have han : ∀ f g : Bool, flow s1 t1 s2 t2 = f → flow s2 t2 s1 t1 = g → f = true → g = true → s1 = s2 ∧ t1 = t2 := by
    rintro f g rfl rfl hf hg; exact flow_anti hf hg
  obtain ⟨fab, h1⟩ : ∃ f, flow s1 t1 s2 t2 = f := ⟨_, rfl⟩
  obtain ⟨fba, h2⟩ : ∃ f, flow s2 t2 s1 t1 = f := ⟨_, rfl⟩
  obtain ⟨fbc, h3⟩ : ∃ f, flow s2 t2 s3 t3 = f := ⟨_, rfl⟩
  obtain ⟨fac, h4⟩ : ∃ f, flow s1 t1 s3 t3 = f := ⟨_, rfl⟩
  replace htr := htr _ _ _ h1 h3 h4
  replace han := han _ _ h1 h2
  rw [h1] at FAB
  rw [h2] at FBA
  rw [h3] at FBC
  rw [h4] at FAC
  clear h1 h2 h3 h4 hl
  have H0 := Lib.hid hH
  clear hH
  go_enter Tryd.func9, Tryd.ntmps9
  go_wp2_with fail
  refine (HAL.out _ (last3 H0.out)).mono ?_
  rintro e w1 ⟨rfl, hb⟩
  have hH := keep3 H0.out hb
  clear hb H0
  have hcase : (fab = true ∧ fba = true ∧ s1 = s2 ∧ t1 = t2) ∨ fab = false ∨ (fab = true ∧ fba = false) := by
    cases hf : fab
    · exact .inr (.inl rfl)
    · cases hg : fba
      · exact .inr (.inr ⟨rfl, rfl⟩)
      · exact .inl ⟨rfl, rfl, han hf hg⟩
  clear han
  rcases hcase with ⟨rfl, rfl, rfl, rfl⟩ | rfl | ⟨rfl, rfl⟩
  · have hcase : fbc = false ∨ (fbc = true ∧ fac = true) := by
      cases hf : fbc
      · exact .inl rfl
      · exact .inr ⟨rfl, htr rfl hf⟩
    clear htr
    rcases hcase with rfl | ⟨rfl, rfl⟩
    all_goals
      go_wp2_with (first
        | (go_at_call_of 39 (#[.agg #[U s1, U t1], .agg #[U s1, U t1]] : Array Value); refine (FAA.out _).mono ?_; rintro e w' ⟨rfl, hb⟩; replace hH := keep3 hH hb; clear hb)
        | (go_at_call_of 39 (#[.agg #[U s1, U t1], .agg #[U s3, U t3]] : Array Value); refine (FBC.out _).mono ?_; rintro e w' ⟨rfl, hb⟩; replace hH := keep3 hH hb; clear hb))
      all_goals
        go_ret
        exact ⟨rfl, last3 hH⟩
  · clear htr
    go_wp2_with (first
      | (go_at_call_of 39 (#[.agg #[U s1, U t1], .agg #[U s1, U t1]] : Array Value); refine (FAA.out _).mono ?_; rintro e w' ⟨rfl, hb⟩; replace hH := keep3 hH hb; clear hb)
      | (go_at_call_of 39 (#[.agg #[U s1, U t1], .agg #[U s2, U t2]] : Array Value); refine (FAB.out _).mono ?_; rintro e w' ⟨rfl, hb⟩; replace hH := keep3 hH hb; clear hb))
    go_ret
    exact ⟨rfl, last3 hH⟩
  · have hcase : fbc = false ∨ (fbc = true ∧ fac = true) := by
      cases hf : fbc
      · exact .inl rfl
      · exact .inr ⟨rfl, htr rfl hf⟩
    clear htr
    rcases hcase with rfl | ⟨rfl, rfl⟩
    all_goals
      go_wp2_with (first
        | (go_at_call_of 39 (#[.agg #[U s1, U t1], .agg #[U s1, U t1]] : Array Value); refine (FAA.out _).mono ?_; rintro e w' ⟨rfl, hb⟩; replace hH := keep3 hH hb; clear hb)
        | (go_at_call_of 39 (#[.agg #[U s1, U t1], .agg #[U s2, U t2]] : Array Value); refine (FAB.out _).mono ?_; rintro e w' ⟨rfl, hb⟩; replace hH := keep3 hH hb; clear hb)
        | (go_at_call_of 39 (#[.agg #[U s2, U t2], .agg #[U s1, U t1]] : Array Value); refine (FBA.out _).mono ?_; rintro e w' ⟨rfl, hb⟩; replace hH := keep3 hH hb; clear hb)
        | (go_at_call_of 39 (#[.agg #[U s2, U t2], .agg #[U s3, U t3]] : Array Value); refine (FBC.out _).mono ?_; rintro e w' ⟨rfl, hb⟩; replace hH := keep3 hH hb; clear hb)
        | (go_at_call_of 39 (#[.agg #[U s1, U t1], .agg #[U s3, U t3]] : Array Value); refine (FAC.out _).mono ?_; rintro e w' ⟨rfl, hb⟩; replace hH := keep3 hH hb; clear hb))
      go_ret
      exact ⟨rfl, last3 hH⟩
end Go.Proofs.YtegjlgdbipfpaaaDoor
