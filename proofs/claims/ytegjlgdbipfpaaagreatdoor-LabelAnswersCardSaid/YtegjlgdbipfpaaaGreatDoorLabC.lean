/-
  label.Bytes; word.From over slices.Backward; label.From.
-/
import Derived.Test.YtegjlgdbipfpaaaGreatDoorLabB
namespace Go.Proofs.YtegjlgdbipfpaaaGreatDoor
open Go Go.RowKit

theorem byteRow_cells {w : World} {base n : Nat} {v : Value} {l : List Nat} (h : w.ownsRow base 5 1 v n (byteRow l)) (hn : 0 < n) :
    ∃ g cap, v = .slice (some ⟨g, 0, none⟩) n cap ∧ ∀ j u, (byteRow l)[j]? = some u → w.cell? ((⟨g, 0, none⟩ : Addr).add j) = some u := by
  obtain ⟨g, cap, rfl⟩ := row_some h hn
  refine ⟨g, cap, rfl, fun j u hj => ?_⟩
  have hj2 : j < (byteRow l).length := (List.getElem?_eq_some_iff.1 hj).1
  have hl : (byteRow l).length = n * 1 := h.1
  rw [Addr.add_lit, Nat.zero_add, h.cellAt j (by omega)]
  exact hj
theorem byteRow_one (l : List Nat) : ∀ u ∈ byteRow l, u.oneCell' = true := by
  intro u hu
  obtain ⟨x, _, rfl⟩ := List.mem_map.1 hu
  rfl
theorem byteRow_length (l : List Nat) : (byteRow l).length = l.length := by simp [byteRow]

theorem concat_new (l1 l2 : List Nat) (h1 : l1.length = 8) (h2 : l2.length = 8) (g1 c1 g2 c2 : Nat) (W : World)
    (k1 : ∀ j u, (byteRow l1)[j]? = some u → W.cell? ((⟨g1, 0, none⟩ : Addr).add j) = some u) (k2 : ∀ j u, (byteRow l2)[j]? = some u → W.cell? ((⟨g2, 0, none⟩ : Addr).add j) = some u) :
    Calls Tryz.prog 38 #[.slice (some ⟨W.heap.size, 0, none⟩) 2 2] (W.alloc (.cells #[.slice (some ⟨g1, 0, none⟩) 8 c1, .slice (some ⟨g2, 0, none⟩) 8 c2] 25)) fun e w' =>
      ∃ v, e = .returned v ∧ w'.ownsRow W.heap.size 5 1 v 16 (byteRow (l1 ++ l2)) ∧ Below W.heap.size W w' := by
  have e : byteRow (l1 ++ l2) = byteRow l1 ++ byteRow l2 := by simp [byteRow]
  rw [e]
  have hb := below1 W (.cells #[.slice (some ⟨g1, 0, none⟩) 8 c1, .slice (some ⟨g2, 0, none⟩) 8 c2] 25)
  refine (concat_two W.heap.size g1 c1 g2 c2 (byteRow l1) (byteRow l2) _ (by rw [byteRow_length, h1]) (by rw [byteRow_length, h2]) (cell_of_row _ _ _ _ _ (0, 0) (heap_alloc_new W _)) (cell_of_row _ _ _ _ _ (0, 0) (heap_alloc_new W _))
    (fun j u hj => (hb.cell (World.block_lt_of_cell? W _ (k1 j u hj))).trans (k1 j u hj)) (fun j u hj => (hb.cell (World.block_lt_of_cell? W _ (k2 j u hj))).trans (k2 j u hj)) (byteRow_one _) (byteRow_one _)).mono ?_
  rintro e w' ⟨v, he, hr, hB⟩
  exact ⟨v, he, row_lower hr hb.size, hb.trans (hB.mono hb.size)⟩

set_option maxRecDepth 100000 in
set_option maxHeartbeats 1000000 in
theorem lbytes_any (s t : BitVec 64) (w : World) : Calls Tryz.prog 21 #[Lab s t] w fun e w' =>
    ∃ v, e = .returned v ∧ w'.ownsRow w.heap.size 5 1 v 16 (byteRow (les s 8 ++ les t 8)) ∧ Below w.heap.size w w' := by
  have h1 := fun W => wbytes_any s W
  have h2 := fun W => wbytes_any t W
  have n1 := les_length s 8
  have n2 := les_length t 8
  obtain ⟨l1, hl1⟩ : ∃ l1, les s 8 = l1 := ⟨_, rfl⟩
  obtain ⟨l2, hl2⟩ : ∃ l2, les t 8 = l2 := ⟨_, rfl⟩
  simp only [hl1] at h1
  simp only [hl2] at h2
  rw [hl1] at n1
  rw [hl2] at n2
  rw [hl1, hl2]
  clear hl1 hl2
  have H1 := Lib.hid h1
  have H2 := Lib.hid h2
  clear h1 h2
  obtain ⟨b, hb0⟩ : ∃ b, w.heap.size = b := ⟨_, rfl⟩
  have hBw := below1 w (.cells #[U s, U t] 24)
  have hc0 : (w.alloc (.cells #[U s, U t] 24)).cell? ⟨w.heap.size, 0, none⟩ = some (U s) := cell_of_row _ _ _ _ _ (0, 0) (heap_alloc_new w _)
  have hc1 : (w.alloc (.cells #[U s, U t] 24)).cell? ⟨w.heap.size, 1, none⟩ = some (U t) := cell_of_row _ _ _ _ _ (0, 0) (heap_alloc_new w _)
  have hbl : w.heap.size < (w.alloc (.cells #[U s, U t] 24)).heap.size := by simp
  go_enter Tryz.func21, Tryz.ntmps21
  go_wp2_with fail
  obtain ⟨w0, hw0⟩ : ∃ w0, w.alloc (.cells #[U s, U t] 24) = w0 := ⟨_, rfl⟩
  rw [hw0] at hc0 hc1 hbl hBw ⊢
  rw [hb0] at hc0 hc1 hbl hBw
  have HBW := Lib.hid hBw
  clear hw0 hBw
  go_region_with (first
    | (go_at_call_of 39 (U s); refine (H1.out _).mono ?_; rintro e w1 ⟨v1, rfl, hr1, hB1⟩; have hc11 := (hB1.cell (p := ⟨b, 1, none⟩) hbl).trans hc1; obtain ⟨g1, c1, rfl, k1⟩ := byteRow_cells hr1 (by decide))
    | (go_at_call_of 39 (U t); refine (H2.out _).mono ?_; rintro e w2 ⟨v2, rfl, hr2, hB2⟩; obtain ⟨g2, c2, rfl, k2⟩ := byteRow_cells hr2 (by decide); have hk1 := fun j u hj => (hB2.cell (World.block_lt_of_cell? _ _ (k1 j u hj))).trans (k1 j u hj))
    | (go_at_call 38; refine (concat_new l1 l2 n1 n2 _ _ _ _ _ ?_ ?_).mono ?_; exact hk1; exact k2; rintro e w3 ⟨v3, rfl, hr3, hB3⟩))
  all_goals
    have s0 : b ≤ w0.heap.size := by omega
    have s1 : b ≤ w1.heap.size := Nat.le_trans s0 hB1.size
    have s2 : b ≤ w2.heap.size := Nat.le_trans s1 hB2.size
    have hfin : Below b w w3 := ((HBW.out.drew.trans (hB1.mono s0)).trans (hB2.mono s1)).trans (hB3.mono s2)
    have hrf := row_lower hr3 s2
    rw [← hb0] at hfin hrf
    have HF := Lib.hid hfin
    have HR := Lib.hid hrf
    clear hfin hrf hr1 hr2 hr3 k1 k2 hk1
    go_wp2
    go_ret
    exact ⟨_, rfl, HR.out, HF.out⟩
end Go.Proofs.YtegjlgdbipfpaaaGreatDoor
