/-
  The reference's Show on labels.
-/
import Derived.Test.YtegjlgdbipfpaaaGreatDoorRfA
namespace Go.Proofs.YtegjlgdbipfpaaaGreatDoor
open Go Go.RowKit

set_option maxRecDepth 100000 in
set_option maxHeartbeats 1000000 in
theorem rlshow_any (s t : BitVec 64) (w : World) : Calls Tryz.prog 24 #[Lab s t] w fun e w' =>
    e = .returned (Str (labText (showL s) (showL t))) ∧ Below w.heap.size w w' := by
  have h1 := fun W => ref_show s W
  have h2 := fun W => ref_show t W
  have n1 := show_len s
  have n2 := show_len t
  obtain ⟨a, ha⟩ : ∃ a, showL s = a := ⟨_, rfl⟩
  obtain ⟨c, hc⟩ : ∃ c, showL t = c := ⟨_, rfl⟩
  simp only [ha] at h1
  simp only [hc] at h2
  rw [ha] at n1 ⊢
  rw [hc] at n2 ⊢
  have H1 := Lib.hid h1
  have H2 := Lib.hid h2
  clear h1 h2 ha hc
  have hBw := below1 w (.cells #[U s, U t] 24)
  have hc0 : (w.alloc (.cells #[U s, U t] 24)).cell? ⟨w.heap.size, 0, none⟩ = some (U s) := cell_of_row _ _ _ _ _ (0, 0) (heap_alloc_new w _)
  have hc1 : (w.alloc (.cells #[U s, U t] 24)).cell? ⟨w.heap.size, 1, none⟩ = some (U t) := cell_of_row _ _ _ _ _ (0, 0) (heap_alloc_new w _)
  have hbl : w.heap.size < (w.alloc (.cells #[U s, U t] 24)).heap.size := by simp
  go_enter Tryz.func24, Tryz.ntmps24
  go_wp2_with fail
  obtain ⟨w0, hw0⟩ : ∃ w0, w.alloc (.cells #[U s, U t] 24) = w0 := ⟨_, rfl⟩
  rw [hw0] at hc0 hc1 hbl hBw ⊢
  have HBW := Lib.hid hBw
  clear hw0 hBw
  go_region_with (first
    | (go_at_call_of 42 (U s); refine (H1.out _).mono ?_; rintro e w1 ⟨rfl, hB1⟩; have hc11 := (hB1.cell (p := ⟨w.heap.size, 1, none⟩) hbl).trans hc1; have hBw1 := HBW.out.drew.trans (hB1.mono HBW.out.size))
    | (go_at_call_of 42 (U t); refine (H2.out _).mono ?_; rintro e w2 ⟨rfl, hB2⟩; have hBw2 := hBw1.trans (hB2.mono hBw1.size)))
  all_goals
    have HF := Lib.hid hBw2
    clear hB1 hB2 hBw1 hBw2 hc11 hc0 hc1
    go_wp2
    go_ret
    exact ⟨ret_of (labText_bytes a c), HF.out⟩
end Go.Proofs.YtegjlgdbipfpaaaGreatDoor
