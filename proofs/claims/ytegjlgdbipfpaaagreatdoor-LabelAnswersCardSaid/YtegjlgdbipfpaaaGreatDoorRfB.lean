/-
  The reference's With and Need on labels.
-/
import Derived.Test.YtegjlgdbipfpaaaGreatDoorRfA
import Derived.Test.YtegjlgdbipfpaaaGreatDoorKeep
namespace Go.Proofs.YtegjlgdbipfpaaaGreatDoor
open Go Go.RowKit

set_option maxRecDepth 100000 in
set_option maxHeartbeats 4000000 in
theorem ref_with (s t s' t' o : BitVec 64) (w : World) : Calls Tryz.prog 10 #[.agg #[U s, U t], .agg #[U s', U t'], U o] w fun e w' => e = .returned (.bool (win (need s t s' t') o)) ∧ Below w.heap.size w w' := by
  have hH := more1 (U s') (U t') (more0 (U s) (U t) (Lib.hid (Below.refl w.heap.size w)))
  simp only [World.size_alloc] at hH
  have hbit := need_bit s t s' t'
  have hwin := win_iff (need s t s' t') o
  obtain ⟨n, hn⟩ : ∃ n, need s t s' t' = n := ⟨_, rfl⟩
  rw [hn] at hwin ⊢
  simp only [hn] at hbit
  have HBIT := Lib.hid hbit
  have HWIN := Lib.hid hwin
  have HL := Lib.hid (last2 hH)
  clear hn hbit hwin
  go_enter Tryz.func10, Tryz.ntmps10
  go_wp2
  obtain ⟨w0, hw0⟩ : ∃ w0, (w.alloc (.cells #[U s, U t] 24)).alloc (.cells #[U s', U t'] 24) = w0 := ⟨_, rfl⟩
  rw [hw0] at hH HL ⊢
  clear hw0
  go_loop [7] (fun c => ∃ k : Nat, k ≤ 64 ∧ c = .int .i64 k ∧ Hid (∀ i, i < k → n.getLsbD i = true → o.getLsbD i = true)) (fun c => 64 - (intOf c).toNat)
  case atStart => exact ⟨0, by omega, rfl, Lib.hid (fun i h => by omega)⟩
  case round =>
    obtain ⟨k, hk, rfl, hall⟩ := hrel
    by_cases hlt : k < 64
    · have hn := HBIT.out k hlt
      have ho := fun W => ref_has o (k : Int) W
      have h1 := fun W => ref_has s (k : Int) W
      have h2 := fun W => ref_has s' (k : Int) W
      have h3 := fun W => ref_has t' (k : Int) W
      have h4 := fun W => ref_has t (k : Int) W
      simp only [has_nat] at ho h1 h2 h3 h4
      have hgo : (n.getLsbD k = true → o.getLsbD k = true) → Hid (∀ i, i < k + 1 → n.getLsbD i = true → o.getLsbD i = true) := fun h => Lib.hid (fun i hi hb => by
        by_cases e : i = k
        · subst e; exact h hb
        · exact hall.out i (by omega) hb)
      have hno : n.getLsbD k = true → o.getLsbD k = false → Hid (win n o = false) := fun h1 h2 => Lib.hid (by
        cases hw : win n o
        · rfl
        · have := (HWIN.out.1 hw) k hlt h1
          rw [h2] at this
          cases this)
      obtain ⟨f, hf⟩ : ∃ f, o.getLsbD k = f := ⟨_, rfl⟩
      obtain ⟨f1, hf1⟩ : ∃ f, s.getLsbD k = f := ⟨_, rfl⟩
      obtain ⟨f2, hf2⟩ : ∃ f, s'.getLsbD k = f := ⟨_, rfl⟩
      obtain ⟨f3, hf3⟩ : ∃ f, t'.getLsbD k = f := ⟨_, rfl⟩
      obtain ⟨f4, hf4⟩ : ∃ f, t.getLsbD k = f := ⟨_, rfl⟩
      simp only [hf] at ho
      simp only [hf1] at h1
      simp only [hf2] at h2
      simp only [hf3] at h3
      simp only [hf4] at h4
      rw [hf1, hf2, hf3, hf4] at hn
      rw [hf, hn] at hgo hno
      have HO := Lib.hid ho
      have H1 := Lib.hid h1
      have H2 := Lib.hid h2
      have H3 := Lib.hid h3
      have H4 := Lib.hid h4
      have HGO := Lib.hid hgo
      have HNO := Lib.hid hno
      clear ho h1 h2 h3 h4 hgo hno hf hf1 hf2 hf3 hf4 hn
      cases f
      · cases f1 <;> cases f2 <;> cases f3 <;> cases f4
        all_goals
          go_wp2_with (first
            | (go_at_call_of 31 (U o); refine (HO.out _).mono ?_; rintro e w' ⟨rfl, rfl⟩)
            | (go_at_call_of 31 (U s); refine (H1.out _).mono ?_; rintro e w' ⟨rfl, rfl⟩)
            | (go_at_call_of 31 (U s'); refine (H2.out _).mono ?_; rintro e w' ⟨rfl, rfl⟩)
            | (go_at_call_of 31 (U t'); refine (H3.out _).mono ?_; rintro e w' ⟨rfl, rfl⟩)
            | (go_at_call_of 31 (U t); refine (H4.out _).mono ?_; rintro e w' ⟨rfl, rfl⟩))
          try (refine ⟨⟨k + 1, by omega, by go_num, HGO.out (fun h => by cases h)⟩, ?_⟩
               simp [intOf]; omega)
        all_goals
          go_ret
          exact ⟨ret_of (congrArg Value.bool (HNO.out (by simp) (by simp)).out.symm), HL.out⟩
      · go_wp2_with (go_at_call_of 31 (U o); refine (HO.out _).mono ?_; rintro e w' ⟨rfl, rfl⟩)
        go_round
        case rel => exact ⟨k + 1, by omega, by go_num, HGO.out (by simp)⟩
        case measure => simp [intOf]; omega
    · obtain rfl : k = 64 := by omega
      have hw : Hid (win n o = true) := Lib.hid (HWIN.out.2 hall.out)
      go_wp2
      go_ret
      exact ⟨ret_of (congrArg Value.bool hw.out.symm), HL.out⟩

theorem keepLow {w W W' : World} {x0 y0 x1 y1 : Value} (h : W.cell? ⟨w.heap.size, 0, none⟩ = some x0 ∧ W.cell? ⟨w.heap.size, 1, none⟩ = some y0 ∧ W.cell? ⟨w.heap.size + 1, 0, none⟩ = some x1 ∧ W.cell? ⟨w.heap.size + 1, 1, none⟩ = some y1 ∧ Hid (Below w.heap.size w W))
    (hb : Below (w.heap.size + 1 + 1) W W') :
    W'.cell? ⟨w.heap.size, 0, none⟩ = some x0 ∧ W'.cell? ⟨w.heap.size, 1, none⟩ = some y0 ∧ W'.cell? ⟨w.heap.size + 1, 0, none⟩ = some x1 ∧ W'.cell? ⟨w.heap.size + 1, 1, none⟩ = some y1 ∧ Hid (Below w.heap.size w W') := by
  obtain ⟨h0, h1, h2, h3, hw⟩ := h
  exact ⟨(hb.cell (by simp; omega)).trans h0, (hb.cell (by simp; omega)).trans h1, (hb.cell (by simp)).trans h2, (hb.cell (by simp)).trans h3, Lib.hid (hw.out.trans (hb.mono (by omega)))⟩

set_option maxRecDepth 100000 in
set_option maxHeartbeats 4000000 in
theorem ref_need (s t s' t' : BitVec 64) (w : World) : Calls Tryz.prog 13 #[.agg #[U s, U t], .agg #[U s', U t']] w fun e w' => e = .returned (U (need s t s' t')) ∧ Below w.heap.size w w' := by
  obtain ⟨i0, hi, hz0, hz1, hz2⟩ := info_parts info_int
  have hH := more1 (U s') (U t') (more0 (U s) (U t) (Lib.hid (Below.refl w.heap.size w)))
  simp only [World.size_alloc] at hH
  have hbit := need_bit s t s' t'
  have hof := ofRes_cats (need s t s' t')
  obtain ⟨n, hn⟩ : ∃ n, need s t s' t' = n := ⟨_, rfl⟩
  rw [hn] at hof ⊢
  simp only [hn] at hbit
  have HBIT := Lib.hid hbit
  have HOF := Lib.hid hof
  have H0 := Lib.hid hH
  clear hn hbit hof hH
  go_enter Tryz.func13, Tryz.ntmps13
  go_wp2_with fail
  obtain ⟨w0, hw0⟩ : ∃ w0, (w.alloc (.cells #[U s, U t] 24)).alloc (.cells #[U s', U t'] 24) = w0 := ⟨_, rfl⟩
  have hsz : w0.heap.size = w.heap.size + 1 + 1 := by rw [← hw0]; simp
  rw [hw0] at H0 ⊢
  have hmade : (w0.alloc (.cells #[] 3)).ownsRow w0.heap.size 3 1 (.slice (some ⟨w0.heap.size, 0, none⟩) 0 0) 0 [] := World.ownsRow_made _ _ _ (Nat.le_refl _) (by decide) rfl
  rw [hsz] at hmade
  have hH3 := keep2 H0.out (below1 w0 (.cells #[] 3))
  have hsz3 : w.heap.size + 1 + 1 ≤ (w0.alloc (.cells #[] 3)).heap.size := by simp; omega
  clear hw0 H0
  go_loopw [5, 6] (fun v c wr => ∃ k : Nat, k ≤ 64 ∧ c = .int .i64 k ∧ wr.ownsRow (w.heap.size + 1 + 1) 3 1 v (catsTo n k).length (ints (catsTo n k)) ∧ w.heap.size + 1 + 1 ≤ wr.heap.size ∧
      (wr.cell? ⟨w.heap.size, 0, none⟩ = some (U s) ∧ wr.cell? ⟨w.heap.size, 1, none⟩ = some (U t) ∧ wr.cell? ⟨w.heap.size + 1, 0, none⟩ = some (U s') ∧ wr.cell? ⟨w.heap.size + 1, 1, none⟩ = some (U t') ∧ Hid (Below w.heap.size w wr))) (fun _ c _ => 64 - (intOf c).toNat)
  case atStart => exact ⟨0, by omega, rfl, hmade, hsz3, hH3⟩
  case round =>
    clear hmade hsz3 hH3
    obtain ⟨k, hk, rfl, hown, hsr, hH⟩ := hrel
    by_cases hlt : k < 64
    · have hn := HBIT.out k hlt
      have h1 := fun W => ref_has s (k : Int) W
      have h2 := fun W => ref_has s' (k : Int) W
      have h3 := fun W => ref_has t' (k : Int) W
      have h4 := fun W => ref_has t (k : Int) W
      simp only [has_nat] at h1 h2 h3 h4
      have hno : n.getLsbD k = false → Hid (catsTo n (k + 1) = catsTo n k) := fun h => Lib.hid (catsTo_no n k h)
      have hyes : n.getLsbD k = true → Hid (catsTo n (k + 1) = catsTo n k ++ [k]) := fun h => Lib.hid (catsTo_yes n k h)
      obtain ⟨f1, hf1⟩ : ∃ f, s.getLsbD k = f := ⟨_, rfl⟩
      obtain ⟨f2, hf2⟩ : ∃ f, s'.getLsbD k = f := ⟨_, rfl⟩
      obtain ⟨f3, hf3⟩ : ∃ f, t'.getLsbD k = f := ⟨_, rfl⟩
      obtain ⟨f4, hf4⟩ : ∃ f, t.getLsbD k = f := ⟨_, rfl⟩
      simp only [hf1] at h1
      simp only [hf2] at h2
      simp only [hf3] at h3
      simp only [hf4] at h4
      rw [hf1, hf2, hf3, hf4] at hn
      rw [hn] at hno hyes
      have HNO := Lib.hid hno
      have HYES := Lib.hid hyes
      have H1 := Lib.hid h1
      have H2 := Lib.hid h2
      have H3 := Lib.hid h3
      have H4 := Lib.hid h4
      have hcl := catsTo_length n k
      have hA1 : (catsTo n k).length + 1 ≤ maxLen := by unfold maxLen; omega
      have hA2 : ((catsTo n k).length + 1) * 8 ≤ 140737488355328 := by omega
      have hA3 : w.heap.size + 1 + 1 ≤ (wr.alloc (.cells #[.int .i64 (k : Int)] 3)).heap.size := by rw [World.size_alloc]; omega
      have HOWN := Lib.hid hown
      clear h1 h2 h3 h4 hno hyes hf1 hf2 hf3 hf4 hn hown
      cases f1 <;> cases f2 <;> cases f3 <;> cases f4
      all_goals
        go_wp2_with (first
          | (go_at_call_of 31 (U s); refine (H1.out _).mono ?_; rintro e w' ⟨rfl, rfl⟩)
          | (go_at_call_of 31 (U s'); refine (H2.out _).mono ?_; rintro e w' ⟨rfl, rfl⟩)
          | (go_at_call_of 31 (U t'); refine (H3.out _).mono ?_; rintro e w' ⟨rfl, rfl⟩)
          | (go_at_call_of 31 (U t); refine (H4.out _).mono ?_; rintro e w' ⟨rfl, rfl⟩)
          | (at_builtin; refine wpList_append_own _ rfl _ _ 48 rfl (w.heap.size + 1 + 1) 3 i0 (.int .i64 0) 1 8 Tryz.underlying48 hi hz0 hz1 hz2 rfl (by decide) _ _ _ rfl (HOWN.out.alloc _) ⟨wr.heap.size, 0, none⟩ 1 1 [.int .i64 (k : Int)] rfl rfl (cell_one_new _ _ _) (by simp [Value.oneCell']) hA1 hA2 hA3 ?_; intro v' w2 hown' hgrow _))
        first
          | (refine ⟨⟨k + 1, by omega, by go_num, ?_, hsr, hH⟩, by simp [intOf]; omega⟩
             rw [(HNO.out (by simp)).out]
             exact HOWN.out)
          | (have hb : Below (w.heap.size + 1 + 1) wr w2 := ((Below.refl _ wr).alloc hsr (.cells #[.int .i64 (k : Int)] 3)).grown hgrow hA3 (fun q ej => (HOWN.out.lt q ej).1)
             refine ⟨⟨k + 1, by omega, by go_num, ?_, Nat.le_trans hsr hb.size, keepLow hH hb⟩, by simp [intOf]; omega⟩
             rw [(HYES.out (by simp)).out, ints_snoc, List.length_append]
             exact hown')
    · obtain rfl : k = 64 := by omega
      rw [catsTo_all] at hown
      have hcl := cats_length n
      have ho := ref_of u5 (toInts (cats n)) wr (intsAt_row hown) (by unfold toInts; rw [List.length_map]; omega)
      rw [HOF.out] at ho
      have HO := Lib.hid ho
      clear ho hown
      go_wp2_with fail
      refine HO.out.mono ?_
      rintro e w' ⟨rfl, rfl⟩
      go_wp2
      go_ret
      exact ⟨rfl, last2 hH⟩
end Go.Proofs.YtegjlgdbipfpaaaGreatDoor
