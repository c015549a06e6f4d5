/-
  label.Show, label.Read.
-/
import Derived.Test.YtegjlgdbipfpaaaGreatDoorLabA
import Derived.Test.YtegjlgdbipfpaaaGreatDoorLaw4
namespace Go.Proofs.YtegjlgdbipfpaaaGreatDoor
open Go Go.RowKit

/-- A label as text. -/
def labText (a b : List UInt8) : List UInt8 := [115, 58] ++ a ++ [32, 116, 58] ++ b
theorem labText_bytes (a b : List UInt8) : Value.string (ByteArray.mk #[115, 58] ++ ByteArray.mk a.toArray ++ ByteArray.mk #[32, 116, 58] ++ ByteArray.mk b.toArray) = Str (labText a b) := by
  rw [show (#[115, 58] : Array UInt8) = [115, 58].toArray from rfl, show (#[32, 116, 58] : Array UInt8) = [32, 116, 58].toArray from rfl, ByteArray.mk_append_mk, ByteArray.mk_append_mk, ByteArray.mk_append_mk]
  simp [labText]

set_option maxRecDepth 100000 in
set_option maxHeartbeats 1000000 in
theorem lshow_any (s t : BitVec 64) (w : World) (hg : gTop ≤ w.heap.size) (hl : Laid w) : Calls Tryz.prog 23 #[Lab s t] w fun e w' =>
    e = .returned (Str (labText (showL s) (showL t))) ∧ Below w.heap.size w w' := by
  have h1 := fun W (hb : Below w.heap.size w W) => show_any s W (Nat.le_trans hg hb.size) (hl.below hb)
  have h2 := fun W (hb : Below w.heap.size w W) => show_any t W (Nat.le_trans hg hb.size) (hl.below hb)
  have n1 := show_len s
  have n2 := show_len t
  obtain ⟨a, ha⟩ : ∃ a, showL s = a := ⟨_, rfl⟩
  obtain ⟨c, hc⟩ : ∃ c, showL t = c := ⟨_, rfl⟩
  simp only [ha] at h1
  simp only [hc] at h2
  rw [ha] at n1 ⊢
  rw [hc] at n2 ⊢
  have H1 := Lib.hid h1
  have H2 := Lib.hid h2
  clear h1 h2 ha hc hl
  have hBw := below1 w (.cells #[U s, U t] 24)
  have hc0 : (w.alloc (.cells #[U s, U t] 24)).cell? ⟨w.heap.size, 0, none⟩ = some (U s) := cell_of_row _ _ _ _ _ (0, 0) (heap_alloc_new w _)
  have hc1 : (w.alloc (.cells #[U s, U t] 24)).cell? ⟨w.heap.size, 1, none⟩ = some (U t) := cell_of_row _ _ _ _ _ (0, 0) (heap_alloc_new w _)
  have hbl : w.heap.size < (w.alloc (.cells #[U s, U t] 24)).heap.size := by simp
  go_enter Tryz.func23, Tryz.ntmps23
  go_wp2_with fail
  obtain ⟨w0, hw0⟩ : ∃ w0, w.alloc (.cells #[U s, U t] 24) = w0 := ⟨_, rfl⟩
  rw [hw0] at hc0 hc1 hbl hBw ⊢
  have HBW := Lib.hid hBw
  clear hw0 hBw
  go_region_with (first
    | (go_at_call_of 41 (U s); refine (H1.out _ ?_).mono ?_; exact HBW.out.drew; rintro e w1 ⟨rfl, hB1⟩; have hc11 := (hB1.cell (p := ⟨w.heap.size, 1, none⟩) hbl).trans hc1; have hBw1 := HBW.out.drew.trans (hB1.mono HBW.out.size))
    | (go_at_call_of 41 (U t); refine (H2.out _ ?_).mono ?_; exact hBw1; rintro e w2 ⟨rfl, hB2⟩; have hBw2 := hBw1.trans (hB2.mono hBw1.size)))
  all_goals
    have HF := Lib.hid hBw2
    clear hB1 hB2 hBw1 hBw2 hc11 hc0 hc1
    go_wp2
    go_ret
    exact ⟨ret_of (labText_bytes a c), HF.out⟩
end Go.Proofs.YtegjlgdbipfpaaaGreatDoor
