/-
  The reference's functions on labels: With, Need, Both, in, Join, Meet, Raise.
-/
import Derived.Test.YtegjlgdbipfpaaaGreatDoorLabF
import Derived.Test.YtegjlgdbipfpaaaGreatDoorRefE
import Derived.Deep.RegionHeld3
namespace Go.Proofs.YtegjlgdbipfpaaaGreatDoor
open Go Go.RowKit

theorem need_bit (s t s' t' : BitVec 64) (c : Nat) (hc : c < 64) : (need s t s' t').getLsbD c = (s.getLsbD c && !s'.getLsbD c || t'.getLsbD c && !t.getLsbD c) := by
  simp only [need, BitVec.getLsbD_or, BitVec.getLsbD_and, BitVec.getLsbD_not, hc, decide_true, Bool.true_and]

theorem ref_both (a b : BitVec 64) (w : World) : Calls Tryz.prog 35 #[U a, U b] w fun e w' => e = .returned (U (a ||| b)) ∧ w = w' := by
  have hm := ref_minus a b w
  have hs : (a &&& ~~~b) + b = a ||| b := by
    rw [BitVec.add_eq_or_of_and_eq_zero _ _ (by
      apply BitVec.eq_of_getLsbD_eq
      intro i hi
      simp only [BitVec.getLsbD_and, BitVec.getLsbD_not, BitVec.getLsbD_zero, hi, decide_true, Bool.true_and]
      cases b.getLsbD i <;> simp)]
    apply BitVec.eq_of_getLsbD_eq
    intro i hi
    simp only [BitVec.getLsbD_or, BitVec.getLsbD_and, BitVec.getLsbD_not, hi, decide_true, Bool.true_and]
    cases b.getLsbD i <;> simp
  have ha := add_bv (a &&& ~~~b) b
  rw [hs] at ha
  obtain ⟨m, he⟩ : ∃ m, a &&& ~~~b = m := ⟨_, rfl⟩
  obtain ⟨o, ho⟩ : ∃ o, a ||| b = o := ⟨_, rfl⟩
  rw [he] at hm ha
  rw [ho] at ha ⊢
  have HM := Lib.hid hm
  have HA := Lib.hid ha
  clear hm ha hs he ho
  go_enter Tryz.func35, Tryz.ntmps35
  go_wp2_with (go_at_call 37; refine HM.out.mono ?_; rintro e w' ⟨rfl, rfl⟩)
  go_ret
  exact ⟨ret_of (congrArg (Value.int .u64) HA.out), rfl⟩
theorem ref_in (a b : BitVec 64) (w : World) : Calls Tryz.prog 36 #[U a, U b] w fun e w' => e = .returned (U (a &&& b)) ∧ w = w' := by
  have h1 := ref_minus a b w
  have h2 := ref_minus a (a &&& ~~~b) w
  have hs : a &&& ~~~(a &&& ~~~b) = a &&& b := by
    apply BitVec.eq_of_getLsbD_eq
    intro i hi
    simp only [BitVec.getLsbD_and, BitVec.getLsbD_not, hi, decide_true, Bool.true_and]
    cases a.getLsbD i <;> cases b.getLsbD i <;> rfl
  rw [hs] at h2
  obtain ⟨m, he⟩ : ∃ m, a &&& ~~~b = m := ⟨_, rfl⟩
  rw [he] at h1 h2
  have H1 := Lib.hid h1
  have H2 := Lib.hid h2
  clear h1 h2 hs he
  go_enter Tryz.func36, Tryz.ntmps36
  go_wp2_with fail
  refine H1.out.mono ?_
  rintro e w' ⟨rfl, rfl⟩
  go_wp2_with fail
  refine H2.out.mono ?_
  rintro e w' ⟨rfl, rfl⟩
  go_wp2
  go_ret
  exact ⟨rfl, rfl⟩

theorem lab_three (w : World) (x0 y0 x1 y1 x2 y2 : Value) {w3 : World} (h : ((w.alloc (.cells #[x0, y0] 24)).alloc (.cells #[x1, y1] 24)).alloc (.cells #[x2, y2] 24) = w3) :
    w3.cell? ⟨w.heap.size, 0, none⟩ = some x0 ∧ w3.cell? ⟨w.heap.size, 1, none⟩ = some y0 ∧ w3.cell? ⟨w.heap.size + 1, 0, none⟩ = some x1 ∧ w3.cell? ⟨w.heap.size + 1, 1, none⟩ = some y1 ∧
      w3.heap[w.heap.size + 1 + 1]? = some (.cells #[x2, y2] 24) ∧ Below w.heap.size w w3 := by
  subst h
  have b1 := below1 ((w.alloc (.cells #[x0, y0] 24)).alloc (.cells #[x1, y1] 24)) (.cells #[x2, y2] 24)
  have b2 := below1 (w.alloc (.cells #[x0, y0] 24)) (.cells #[x1, y1] 24)
  have hA : (w.alloc (.cells #[x0, y0] 24)).heap[w.heap.size]? = some (.cells #[x0, y0] 24) := World.alloc_heap_new w _
  have hA2 := (b2.block _ (Array.getElem?_eq_some_iff.1 hA).1).trans hA
  have hA3 := (b1.block _ (Array.getElem?_eq_some_iff.1 hA2).1).trans hA2
  have hB : ((w.alloc (.cells #[x0, y0] 24)).alloc (.cells #[x1, y1] 24)).heap[w.heap.size + 1]? = some (.cells #[x1, y1] 24) := by
    have := World.alloc_heap_new (w.alloc (.cells #[x0, y0] 24)) (.cells #[x1, y1] 24)
    rwa [World.size_alloc] at this
  have hB3 := (b1.block _ (Array.getElem?_eq_some_iff.1 hB).1).trans hB
  exact ⟨cell_of_row _ _ _ _ _ _ hA3, cell_of_row _ _ _ _ _ _ hA3, cell_of_row _ _ _ _ _ _ hB3, cell_of_row _ _ _ _ _ _ hB3, heap_new3 w _ _ _, below3 w _ _ _⟩
theorem keepSet {W : World} {p q r : Nat} {x0 y0 x1 y1 x y : Value} (h1 : r ≠ p) (h2 : r ≠ q) (h : W.cell? ⟨p, 0, none⟩ = some x0 ∧ W.cell? ⟨p, 1, none⟩ = some y0 ∧ W.cell? ⟨q, 0, none⟩ = some x1 ∧ W.cell? ⟨q, 1, none⟩ = some y1) :
    ((W.setCell ⟨r, 0, none⟩ x).setCell ⟨r, 1, none⟩ y).cell? ⟨p, 0, none⟩ = some x0 ∧ ((W.setCell ⟨r, 0, none⟩ x).setCell ⟨r, 1, none⟩ y).cell? ⟨p, 1, none⟩ = some y0 ∧
      ((W.setCell ⟨r, 0, none⟩ x).setCell ⟨r, 1, none⟩ y).cell? ⟨q, 0, none⟩ = some x1 ∧ ((W.setCell ⟨r, 0, none⟩ x).setCell ⟨r, 1, none⟩ y).cell? ⟨q, 1, none⟩ = some y1 := by
  have far : ∀ (p i : Nat), r ≠ p → ((W.setCell ⟨r, 0, none⟩ x).setCell ⟨r, 1, none⟩ y).cell? ⟨p, i, none⟩ = W.cell? ⟨p, i, none⟩ := fun p i hp => by
    rw [World.cell?_setCell_far _ _ _ _ hp, World.cell?_setCell_far _ _ _ _ hp]
  rw [far p 0 h1, far p 1 h1, far q 0 h2, far q 1 h2]
  exact h

theorem resRJ : Tryz.f15.results = #[.cell 4 24] := by kernel_rfl
theorem resRM : Tryz.f17.results = #[.cell 4 24] := by kernel_rfl

set_option maxRecDepth 100000 in
set_option maxHeartbeats 1000000 in
theorem ref_join (s t s' t' : BitVec 64) (w : World) : Calls Tryz.prog 15 #[.agg #[U s, U t], .agg #[U s', U t']] w fun e w' => e = .returned (.agg #[U (s ||| s'), U (t &&& t')]) ∧ Below w.heap.size w w' := by
  have h1 := fun W => ref_both s s' W
  have h2 := fun W => ref_in t t' W
  obtain ⟨p, hp⟩ : ∃ p, s ||| s' = p := ⟨_, rfl⟩
  obtain ⟨q, hq⟩ : ∃ q, t &&& t' = q := ⟨_, rfl⟩
  simp only [hp] at h1 ⊢
  simp only [hq] at h2 ⊢
  have H1 := Lib.hid h1
  have H2 := Lib.hid h2
  clear h1 h2 hp hq
  obtain ⟨w3, hw3⟩ : ∃ w3, ((w.alloc (.cells #[U s, U t] 24)).alloc (.cells #[U s', U t'] 24)).alloc (.cells #[.int .u64 0, .int .u64 0] 24) = w3 := ⟨_, rfl⟩
  have HS := Lib.hid (lab_three w (U s) (U t) (U s') (U t') (.int .u64 0) (.int .u64 0) hw3)
  have HW := Lib.hid hw3
  clear hw3
  go_enter Tryz.func15, Tryz.ntmps15
  go_wp2_with fail
  rw [HW.out]
  obtain ⟨c0, c1, c2, c3, hx, hB⟩ := HS.out
  obtain ⟨z0, f0, f1, k1, hx2⟩ := two_store (U p) (U q) hx
  have HX := Lib.hid hx2
  have HF := Lib.hid ((hB.setCell (p := ⟨w.heap.size + 1 + 1, 0, none⟩) (by simp; omega) (U p)).setCell (p := ⟨w.heap.size + 1 + 1, 1, none⟩) (by simp; omega) (U q))
  have HC := Lib.hid (show _ ∧ _ ∧ _ ∧ _ from ⟨c0, c1, c2, c3⟩)
  clear hx hx2 hB HS HW c0 c1 c2 c3
  go_region_held3 (fun W => W.cell? ⟨w.heap.size, 0, none⟩ = some (U s) ∧ W.cell? ⟨w.heap.size, 1, none⟩ = some (U t) ∧ W.cell? ⟨w.heap.size + 1, 0, none⟩ = some (U s') ∧ W.cell? ⟨w.heap.size + 1, 1, none⟩ = some (U t'))
    (first | exact HC.out | assumption | exact keepSet (by omega) (by omega) HC.out)
    (first
    | (go_at_call 35; refine (H1.out _).mono ?_; rintro e w' ⟨rfl, rfl⟩)
    | (go_at_call 36; refine (H2.out _).mono ?_; rintro e w' ⟨rfl, rfl⟩))
  all_goals
    go_wp2
    exact bodyPost_ret (lab_results resRJ _ _ _ _ _ _ _ rfl (show _ from HX.out)) rfl ⟨rfl, HF.out.drew⟩
set_option maxRecDepth 100000 in
set_option maxHeartbeats 1000000 in
theorem ref_meet (s t s' t' : BitVec 64) (w : World) : Calls Tryz.prog 17 #[.agg #[U s, U t], .agg #[U s', U t']] w fun e w' => e = .returned (.agg #[U (s &&& s'), U (t ||| t')]) ∧ Below w.heap.size w w' := by
  have h1 := fun W => ref_in s s' W
  have h2 := fun W => ref_both t t' W
  obtain ⟨p, hp⟩ : ∃ p, s &&& s' = p := ⟨_, rfl⟩
  obtain ⟨q, hq⟩ : ∃ q, t ||| t' = q := ⟨_, rfl⟩
  simp only [hp] at h1 ⊢
  simp only [hq] at h2 ⊢
  have H1 := Lib.hid h1
  have H2 := Lib.hid h2
  clear h1 h2 hp hq
  obtain ⟨w3, hw3⟩ : ∃ w3, ((w.alloc (.cells #[U s, U t] 24)).alloc (.cells #[U s', U t'] 24)).alloc (.cells #[.int .u64 0, .int .u64 0] 24) = w3 := ⟨_, rfl⟩
  have HS := Lib.hid (lab_three w (U s) (U t) (U s') (U t') (.int .u64 0) (.int .u64 0) hw3)
  have HW := Lib.hid hw3
  clear hw3
  go_enter Tryz.func17, Tryz.ntmps17
  go_wp2_with fail
  rw [HW.out]
  obtain ⟨c0, c1, c2, c3, hx, hB⟩ := HS.out
  obtain ⟨z0, f0, f1, k1, hx2⟩ := two_store (U p) (U q) hx
  have HX := Lib.hid hx2
  have HF := Lib.hid ((hB.setCell (p := ⟨w.heap.size + 1 + 1, 0, none⟩) (by simp; omega) (U p)).setCell (p := ⟨w.heap.size + 1 + 1, 1, none⟩) (by simp; omega) (U q))
  have HC := Lib.hid (show _ ∧ _ ∧ _ ∧ _ from ⟨c0, c1, c2, c3⟩)
  clear hx hx2 hB HS HW c0 c1 c2 c3
  go_region_held3 (fun W => W.cell? ⟨w.heap.size, 0, none⟩ = some (U s) ∧ W.cell? ⟨w.heap.size, 1, none⟩ = some (U t) ∧ W.cell? ⟨w.heap.size + 1, 0, none⟩ = some (U s') ∧ W.cell? ⟨w.heap.size + 1, 1, none⟩ = some (U t'))
    (first | exact HC.out | assumption | exact keepSet (by omega) (by omega) HC.out)
    (first
    | (go_at_call 36; refine (H1.out _).mono ?_; rintro e w' ⟨rfl, rfl⟩)
    | (go_at_call 35; refine (H2.out _).mono ?_; rintro e w' ⟨rfl, rfl⟩))
  all_goals
    go_wp2
    exact bodyPost_ret (lab_results resRM _ _ _ _ _ _ _ rfl (show _ from HX.out)) rfl ⟨rfl, HF.out.drew⟩
theorem lab_two (w : World) (x0 y0 x2 y2 : Value) {w3 : World} (h : (w.alloc (.cells #[x0, y0] 24)).alloc (.cells #[x2, y2] 24) = w3) :
    w3.cell? ⟨w.heap.size, 0, none⟩ = some x0 ∧ w3.cell? ⟨w.heap.size, 1, none⟩ = some y0 ∧ w3.heap[w.heap.size + 1]? = some (.cells #[x2, y2] 24) ∧ Below w.heap.size w w3 := by
  subst h
  have b2 := below1 (w.alloc (.cells #[x0, y0] 24)) (.cells #[x2, y2] 24)
  have hA : (w.alloc (.cells #[x0, y0] 24)).heap[w.heap.size]? = some (.cells #[x0, y0] 24) := World.alloc_heap_new w _
  have hA2 := (b2.block _ (Array.getElem?_eq_some_iff.1 hA).1).trans hA
  have hB : ((w.alloc (.cells #[x0, y0] 24)).alloc (.cells #[x2, y2] 24)).heap[w.heap.size + 1]? = some (.cells #[x2, y2] 24) := by
    have := World.alloc_heap_new (w.alloc (.cells #[x0, y0] 24)) (.cells #[x2, y2] 24)
    rwa [World.size_alloc] at this
  exact ⟨cell_of_row _ _ _ _ _ _ hA2, cell_of_row _ _ _ _ _ _ hA2, hB, below2 w _ _⟩
theorem keepSet1 {W : World} {p r : Nat} {x0 y0 x y : Value} (h1 : r ≠ p) (h : W.cell? ⟨p, 0, none⟩ = some x0 ∧ W.cell? ⟨p, 1, none⟩ = some y0) :
    ((W.setCell ⟨r, 0, none⟩ x).setCell ⟨r, 1, none⟩ y).cell? ⟨p, 0, none⟩ = some x0 ∧ ((W.setCell ⟨r, 0, none⟩ x).setCell ⟨r, 1, none⟩ y).cell? ⟨p, 1, none⟩ = some y0 := by
  have far : ∀ (p i : Nat), r ≠ p → ((W.setCell ⟨r, 0, none⟩ x).setCell ⟨r, 1, none⟩ y).cell? ⟨p, i, none⟩ = W.cell? ⟨p, i, none⟩ := fun p i hp => by
    rw [World.cell?_setCell_far _ _ _ _ hp, World.cell?_setCell_far _ _ _ _ hp]
  rw [far p 0 h1, far p 1 h1]
  exact h
theorem resRR : Tryz.f19.results = #[.cell 6 24] := by kernel_rfl
set_option maxRecDepth 100000 in
set_option maxHeartbeats 1000000 in
theorem ref_raise (s t m d : BitVec 64) (w : World) : Calls Tryz.prog 19 #[.agg #[U s, U t], U m, U d] w fun e w' => e = .returned (.agg #[U (s ||| m), U (t &&& ~~~d)]) ∧ Below w.heap.size w w' := by
  have h1 := fun W => ref_both s m W
  have h2 := fun W => ref_minus t d W
  obtain ⟨p, hp⟩ : ∃ p, s ||| m = p := ⟨_, rfl⟩
  obtain ⟨q, hq⟩ : ∃ q, t &&& ~~~d = q := ⟨_, rfl⟩
  simp only [hp] at h1 ⊢
  simp only [hq] at h2 ⊢
  have H1 := Lib.hid h1
  have H2 := Lib.hid h2
  clear h1 h2 hp hq
  obtain ⟨w3, hw3⟩ : ∃ w3, (w.alloc (.cells #[U s, U t] 24)).alloc (.cells #[.int .u64 0, .int .u64 0] 24) = w3 := ⟨_, rfl⟩
  have HS := Lib.hid (lab_two w (U s) (U t) (.int .u64 0) (.int .u64 0) hw3)
  have HW := Lib.hid hw3
  clear hw3
  go_enter Tryz.func19, Tryz.ntmps19
  go_wp2_with fail
  rw [HW.out]
  obtain ⟨c0, c1, hx, hB⟩ := HS.out
  obtain ⟨z0, f0, f1, k1, hx2⟩ := two_store (U p) (U q) hx
  have HX := Lib.hid hx2
  have HF := Lib.hid ((hB.setCell (p := ⟨w.heap.size + 1, 0, none⟩) (by simp) (U p)).setCell (p := ⟨w.heap.size + 1, 1, none⟩) (by simp) (U q))
  have HC := Lib.hid (show _ ∧ _ from ⟨c0, c1⟩)
  clear hx hx2 hB HS HW c0 c1
  go_region_held3 (fun W => W.cell? ⟨w.heap.size, 0, none⟩ = some (U s) ∧ W.cell? ⟨w.heap.size, 1, none⟩ = some (U t))
    (first | exact HC.out | assumption | exact keepSet1 (by omega) HC.out)
    (first
    | (go_at_call 35; refine (H1.out _).mono ?_; rintro e w' ⟨rfl, rfl⟩)
    | (go_at_call 37; refine (H2.out _).mono ?_; rintro e w' ⟨rfl, rfl⟩))
  all_goals
    go_wp2
    exact bodyPost_ret (lab_results resRR _ _ _ _ _ _ _ rfl (show _ from HX.out)) rfl ⟨rfl, HF.out.drew⟩
end Go.Proofs.YtegjlgdbipfpaaaGreatDoor
