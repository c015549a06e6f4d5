/-
  concordatlaw07.LabelBack returns true: its walk.
-/
import Derived.Test.YtegjlgdbipfpaaaDoorLabJ
import Derived.Deep.RegionHeld3
namespace Go.Proofs.YtegjlgdbipfpaaaDoor
open Go Go.RowKit

theorem labText_len (a b : BitVec 64) : (labText (showL a) (showL b)).length ≤ 810 := by
  have h1 := show_len a
  have h2 := show_len b
  simp only [labText, List.length_append, List.length_cons, List.length_nil]
  omega
theorem lshow_at' (s t : BitVec 64) {w W : World} (hg : gTop ≤ w.heap.size) (hl : Laid w) (h : Below w.heap.size w W) :
    Calls Tryd.prog 48 #[.agg #[U s, U t]] W fun e w' => e = .returned (Str (labText (showL s) (showL t))) ∧ Below W.heap.size W w' := lshow_any s t W (Nat.le_trans hg h.size) (hl.below h)
theorem lread_at (s t : BitVec 64) {w W : World} (hg : gTop ≤ w.heap.size) (hl : Laid w) (h : Below w.heap.size w W) :
    Calls Tryd.prog 47 #[Str (labText (showL s) (showL t))] W fun e w' => e = .returned (.tuple #[.agg #[U s, U t], .bool true]) ∧ Below W.heap.size W w' := by
  refine (lread_any _ (Nat.le_trans (labText_len s t) (by decide)) W (Nat.le_trans hg h.size) (hl.below h)).mono fun e w' ⟨hr, hb⟩ => ⟨?_, hb⟩
  rcases hr with ⟨a, b, h1, he⟩ | ⟨h1, _⟩
  · obtain ⟨e1, e2⟩ := labPost_inj h1
    subst e1 e2
    exact he
  · exact absurd rfl (h1 s t)
theorem lbytes_at (s t : BitVec 64) (w : World) : Calls Tryd.prog 46 #[.agg #[U s, U t]] w fun e w' =>
    ∃ v, e = .returned v ∧ w'.ownsRow w.heap.size 5 1 v 16 (byteRow (les s 8 ++ les t 8)) ∧ Below w.heap.size w w' := lbytes_any s t w

set_option maxRecDepth 100000 in
set_option maxHeartbeats 2000000 in
theorem lback_any (s1 t1 s2 t2 : BitVec 64) (w : World) (hg : gTop ≤ w.heap.size) (hl : Laid w) :
    Calls Tryd.prog 13 #[Lab s1 t1, Lab s2 t2] w fun e w' => e = .returned (.bool true) ∧ Below w.heap.size w w' := by
  have HAL := Lib.hid (fun W (h : Below w.heap.size w W) => lalive_any W (Nat.le_trans hg h.size) (hl.below h))
  have hH := more1 (U s2) (U t2) (more0 (U s1) (U t1) (Lib.hid (Below.refl w.heap.size w)))
  simp only [World.size_alloc] at hH
  have sa := fun W (h : Below w.heap.size w W) => lshow_at' s1 t1 hg hl h
  have sb := fun W (h : Below w.heap.size w W) => lshow_at' s2 t2 hg hl h
  have rd := fun W (h : Below w.heap.size w W) => lread_at s1 t1 hg hl h
  have ba := fun W => lbytes_at s1 t1 W
  have fb := fun v base W h => lfrom_bytes s1 t1 v base W h
  have hcase : (s1 = s2 ∧ t1 = t2) ∨ (¬ (s1 = s2 ∧ t1 = t2) ∧ labText (showL s1) (showL t1) ≠ labText (showL s2) (showL t2)) := by
    by_cases h : s1 = s2 ∧ t1 = t2
    · exact .inl h
    · exact .inr ⟨h, fun e => h (labPost_inj e)⟩
  obtain ⟨T, hT⟩ : ∃ T, labText (showL s1) (showL t1) = T := ⟨_, rfl⟩
  obtain ⟨T2, hT2⟩ : ∃ T, labText (showL s2) (showL t2) = T := ⟨_, rfl⟩
  obtain ⟨R, hR⟩ : ∃ R, byteRow (les s1 8 ++ les t1 8) = R := ⟨_, rfl⟩
  have hTT : s1 = s2 ∧ t1 = t2 → T = T2 := by rintro ⟨rfl, rfl⟩; rw [← hT, ← hT2]
  simp only [hT] at sa rd hcase
  simp only [hT2] at sb hcase
  simp only [hR] at ba fb
  have SA := Lib.hid sa
  have SB := Lib.hid sb
  have RD := Lib.hid rd
  have BA := Lib.hid ba
  have FB := Lib.hid fb
  have H0 := Lib.hid hH
  have HTT := Lib.hid hTT
  have HCASE := Lib.hid hcase
  clear sa sb rd ba fb hH hl hT hT2 hR hTT hcase
  go_enter Tryd.func13, Tryd.ntmps13
  go_wp2_with fail
  refine (HAL.out _ (last2 H0.out)).mono ?_
  rintro e w1 ⟨rfl, hb⟩
  have hH := keep2 H0.out hb
  clear hb H0
  go_wp2_with fail
  refine (BA.out _).mono ?_
  rintro e w2 ⟨v, rfl, hr, hb⟩
  have hH2 := keep2 hH hb
  have HR := Lib.hid hr
  clear hb hH hr
  go_wp2_with fail
  refine (FB.out v _ w2 HR.out).mono ?_
  rintro e w3 ⟨rfl, hb⟩
  have hH := more2 (U s1) (U t1) (keep2 hH2 hb)
  clear hb hH2 HR
  go_wp2_with fail
  refine (SA.out _ (last3 hH)).mono ?_
  rintro e w4 ⟨rfl, hb⟩
  have hH2 := keep3 hH hb
  clear hb hH
  go_wp2_with fail
  refine (RD.out _ (last3 hH2)).mono ?_
  rintro e w5 ⟨rfl, hb⟩
  have hH := more3 (U s1) (U t1) (keep3 hH2 hb)
  clear hb hH2
  go_wp2_with fail
  have H1 := Lib.hid (keep4 hH ((Below.refl _ _).drew))
  clear hH
  obtain ⟨w6, hw6⟩ : ∃ w6, w5.alloc (.cells #[U s1, U t1] 53) = w6 := ⟨_, rfl⟩
  rw [hw6] at H1 ⊢
  rcases HCASE.out with ⟨rfl, rfl⟩ | ⟨hne, hTn⟩
  · have hT2 := HTT.out ⟨rfl, rfl⟩
    subst hT2
    go_region_held3 (fun W => W.cell? ⟨w.heap.size, 0, none⟩ = some (U s1) ∧ W.cell? ⟨w.heap.size, 1, none⟩ = some (U t1) ∧ W.cell? ⟨w.heap.size + 1, 0, none⟩ = some (U s1) ∧ W.cell? ⟨w.heap.size + 1, 1, none⟩ = some (U t1) ∧ W.cell? ⟨w3.heap.size, 0, none⟩ = some (U s1) ∧ W.cell? ⟨w3.heap.size, 1, none⟩ = some (U t1) ∧ W.cell? ⟨w5.heap.size, 0, none⟩ = some (U s1) ∧ W.cell? ⟨w5.heap.size, 1, none⟩ = some (U t1) ∧ Hid (Below w.heap.size w W)) (first | exact H1.out | exact keep4 (by assumption) (by assumption))
      (first
      | (go_at_call 46; refine (BA.out _).mono ?_; rintro e w' ⟨v', rfl, hr, hb⟩; obtain ⟨g, cap, rfl⟩ := row_some hr (by decide))
      | (go_at_call_of 48 (#[.agg #[U s1, U t1]] : Array Value); refine (SA.out _ (last4 (by assumption))).mono ?_; rintro e w' ⟨rfl, hb⟩)
      | (go_at_call_of 48 (#[.agg #[U s1, U t1]] : Array Value); refine (SA.out _ (last4 (by assumption))).mono ?_; rintro e w' ⟨rfl, hb⟩))
    all_goals
      go_wp2
      go_ret
      exact ⟨rfl, last4 (by assumption)⟩
  · have hTb : (T == T2) = false := by rw [beq_eq_false_iff_ne]; exact hTn
    have hcase : (s1 = s2 ∧ t1 ≠ t2) ∨ s1 ≠ s2 := by
      by_cases h : s1 = s2
      · exact .inl ⟨h, fun h2 => hne ⟨h, h2⟩⟩
      · exact .inr h
    clear hTn hne HCASE HTT
    rcases hcase with ⟨rfl, h⟩ | h
    · have hb1 : ((t1.toNat : Int) == (t2.toNat : Int)) = false := by rw [eq_bv, beq_eq_false_iff_ne]; exact h
      clear h
      go_region_held3 (fun W => W.cell? ⟨w.heap.size, 0, none⟩ = some (U s1) ∧ W.cell? ⟨w.heap.size, 1, none⟩ = some (U t1) ∧ W.cell? ⟨w.heap.size + 1, 0, none⟩ = some (U s1) ∧ W.cell? ⟨w.heap.size + 1, 1, none⟩ = some (U t2) ∧ W.cell? ⟨w3.heap.size, 0, none⟩ = some (U s1) ∧ W.cell? ⟨w3.heap.size, 1, none⟩ = some (U t1) ∧ W.cell? ⟨w5.heap.size, 0, none⟩ = some (U s1) ∧ W.cell? ⟨w5.heap.size, 1, none⟩ = some (U t1) ∧ Hid (Below w.heap.size w W)) (first | exact H1.out | exact keep4 (by assumption) (by assumption))
        (first
        | (go_at_call 46; refine (BA.out _).mono ?_; rintro e w' ⟨v', rfl, hr, hb⟩; obtain ⟨g, cap, rfl⟩ := row_some hr (by decide))
        | (go_at_call_of 48 (#[.agg #[U s1, U t1]] : Array Value); refine (SA.out _ (last4 (by assumption))).mono ?_; rintro e w' ⟨rfl, hb⟩)
        | (go_at_call_of 48 (#[.agg #[U s1, U t2]] : Array Value); refine (SB.out _ (last4 (by assumption))).mono ?_; rintro e w' ⟨rfl, hb⟩))
      all_goals
        go_wp2
        go_ret
        exact ⟨rfl, last4 (by assumption)⟩
    · have hb1 : ((s1.toNat : Int) == (s2.toNat : Int)) = false := by rw [eq_bv, beq_eq_false_iff_ne]; exact h
      clear h
      go_region_held3 (fun W => W.cell? ⟨w.heap.size, 0, none⟩ = some (U s1) ∧ W.cell? ⟨w.heap.size, 1, none⟩ = some (U t1) ∧ W.cell? ⟨w.heap.size + 1, 0, none⟩ = some (U s2) ∧ W.cell? ⟨w.heap.size + 1, 1, none⟩ = some (U t2) ∧ W.cell? ⟨w3.heap.size, 0, none⟩ = some (U s1) ∧ W.cell? ⟨w3.heap.size, 1, none⟩ = some (U t1) ∧ W.cell? ⟨w5.heap.size, 0, none⟩ = some (U s1) ∧ W.cell? ⟨w5.heap.size, 1, none⟩ = some (U t1) ∧ Hid (Below w.heap.size w W)) (first | exact H1.out | exact keep4 (by assumption) (by assumption))
        (first
        | (go_at_call 46; refine (BA.out _).mono ?_; rintro e w' ⟨v', rfl, hr, hb⟩; obtain ⟨g, cap, rfl⟩ := row_some hr (by decide))
        | (go_at_call_of 48 (#[.agg #[U s1, U t1]] : Array Value); refine (SA.out _ (last4 (by assumption))).mono ?_; rintro e w' ⟨rfl, hb⟩)
        | (go_at_call_of 48 (#[.agg #[U s2, U t2]] : Array Value); refine (SB.out _ (last4 (by assumption))).mono ?_; rintro e w' ⟨rfl, hb⟩))
      all_goals
        go_wp2
        go_ret
        exact ⟨rfl, last4 (by assumption)⟩
end Go.Proofs.YtegjlgdbipfpaaaDoor
