/-
  The reference's Bytes and From on words and on labels.
-/
import Derived.Test.YtegjlgdbipfpaaaGreatDoorRfA
import Derived.Test.YtegjlgdbipfpaaaGreatDoorKeep
namespace Go.Proofs.YtegjlgdbipfpaaaGreatDoor
open Go Go.RowKit

set_option maxRecDepth 100000 in
theorem rbytes_any (s : BitVec 64) (w : World) : Calls Tryz.prog 40 #[U s, .int .i64 8] w fun e w' =>
    ∃ v, e = .returned v ∧ w'.ownsRow w.heap.size 5 1 v 8 (byteRow (les s 8)) ∧ Below w.heap.size w w' := by
  obtain ⟨i0, hi, hz0, hz1, hz2⟩ := info_parts info_byte
  have hs := s.isLt
  unfold U
  go_enter Tryz.func40, Tryz.ntmps40
  go_wp2_with fail
  go_loopw [0, 5, 6] (fun u v c wr => ∃ k d : Nat, k ≤ 8 ∧ c = .int .i64 k ∧ u = .int .u64 (d : Int) ∧ Hid (d = s.toNat / 256 ^ k) ∧ wr.ownsRow w.heap.size 5 1 v k (byteRow (les s k)) ∧ Below w.heap.size w wr) (fun _ _ c _ => 8 - (intOf c).toNat)
  case atStart => exact ⟨0, s.toNat, by omega, rfl, rfl, Lib.hid (by simp), World.ownsRow_made _ _ _ (Nat.le_refl _) (by decide) rfl, (Below.refl _ _).alloc (Nat.le_refl _) _⟩
  case round =>
    obtain ⟨k, d, hk, rfl, rfl, hd, hown, hB⟩ := hrel
    by_cases hlt : k < 8
    · have hd64 : d < 18446744073709551616 := by rw [hd.out]; exact Nat.lt_of_le_of_lt (Nat.div_le_self _ _) (by omega)
      have hA1 : k + 1 ≤ maxLen := by unfold maxLen; omega
      have hA2 : (k + 1) * 1 ≤ 140737488355328 := by omega
      have hA3 : w.heap.size ≤ (wr.alloc (.cells #[.int .u8 ((d : Int) % 256)] 5)).heap.size := by rw [World.size_alloc]; have := hB.size; omega
      have hd' : Hid (d / 256 = s.toNat / 256 ^ (k + 1)) := Lib.hid (by rw [hd.out, Nat.div_div_eq_div_mul, Nat.pow_succ])
      have hb : Hid (le s k = d % 256) := Lib.hid (by unfold le; rw [hd.out])
      have htm : (d : Int).tmod 256 = (d : Int) % 256 := Int.tmod_eq_emod_of_nonneg (by omega)
      go_wp2_with (at_builtin; refine wpList_append_own _ rfl _ _ 25 rfl w.heap.size 5 i0 (.int .u8 0) 1 1 Tryz.underlying25 hi hz0 hz1 hz2 rfl (by decide) _ _ _ rfl (hown.alloc _) ⟨wr.heap.size, 0, none⟩ 1 1 [.int .u8 ((d : Int) % 256)] rfl rfl (cell_one_new _ _ _) (by simp [Value.oneCell']) hA1 hA2 hA3 ?_; intro v' w2 hown' hgrow _)
      have hB3 := (hB.alloc hB.size (.cells #[.int .u8 ((d : Int) % 256)] 5)).grown hgrow (by simp; have := hB.size; omega) (fun q ej => (hown.lt q ej).1)
      have hrow3 : Hid (w2.ownsRow w.heap.size 5 1 v' (k + 1) (byteRow (les s (k + 1)))) := Lib.hid (by
        rw [les_succ, byteRow_snoc, hb.out]; exact hown')
      clear hown hown' hgrow
      go_roundw
      case rel => exact ⟨k + 1, d / 256, by omega, by go_num, by simp, hd', hrow3.out, hB3⟩
      case measure => simp [intOf]; omega
    · obtain rfl : k = 8 := by omega
      have hz : d = 0 := by rw [hd.out]; exact Nat.div_eq_of_lt (by omega)
      subst hz
      go_wp2
      go_ret
      exact ⟨_, rfl, hown, hB⟩

theorem rfrom_any (g off cap : Nat) (L : List Nat) (w : World) (hm : L.length ≤ 8) (h256 : ∀ x ∈ L, x < 256)
    (hcell : ∀ j, j < L.length → w.cell? ⟨g, off + j, none⟩ = some (.int .u8 (nthB L j : Int))) :
    Calls Tryz.prog 26 #[.slice (some ⟨g, off, none⟩) L.length cap] w fun e w' => e = .returned (.tuple #[.int .u64 (ofLE L : Int), .bool true]) ∧ Below w.heap.size w w' := by
  have hm1 : ¬ (8 : Int) < (L.length : Int) := by omega
  obtain ⟨N, hN⟩ : ∃ N, L.length = N := ⟨_, rfl⟩
  rw [hN] at hcell hm hm1 ⊢
  have HC := Lib.hid hcell
  have HN := Lib.hid hN
  have H256 := Lib.hid h256
  clear hcell hN h256
  go_enter Tryz.func26, Tryz.ntmps26
  go_wp2_with fail
  go_loop [4, 5] (fun u c => ∃ k u0 : Nat, k ≤ N ∧ c = .int .i64 ((k : Int) - 1) ∧ u = .int .u64 (u0 : Int) ∧ Hid (u0 = ofLE (L.drop k))) (fun _ c => (intOf c + 1).toNat)
  case atStart => exact ⟨N, 0, Nat.le_refl _, rfl, rfl, Lib.hid (by rw [← HN.out]; simp [ofLE])⟩
  case round =>
    obtain ⟨k, u0, hk, rfl, rfl, hu⟩ := hrel
    cases k with
    | zero =>
      have hfin : Hid (u0 = ofLE L) := Lib.hid (by rw [hu.out]; simp)
      clear hu
      go_wp2
      go_ret2
      exact ⟨congrArg (fun z : Nat => Ending.returned (.tuple #[.int .u64 (z : Int), .bool true])) hfin.out, Below.refl _ _⟩
    | succ m =>
      have hc := HC.out m (by omega)
      have hlt : m < L.length := by rw [HN.out]; omega
      have hy256 : nthB L m < 256 := by
        unfold nthB
        rw [List.getElem?_eq_getElem hlt]
        exact H256.out _ (List.getElem_mem hlt)
      have hd2 : L.drop m = nthB L m :: L.drop (m + 1) := by
        rw [List.drop_eq_getElem_cons hlt]
        simp [nthB, hlt]
      have hu2 : Hid (u0 * 256 + nthB L m = ofLE (L.drop m)) := Lib.hid (by rw [hd2, ofLE, hu.out]; omega)
      have hub : u0 < 72057594037927936 := by
        rw [hu.out]
        have h1 := ofLE_lt (L.drop (m + 1)) (fun x hx => H256.out x (List.mem_of_mem_drop hx))
        rw [List.length_drop] at h1
        exact Nat.lt_of_lt_of_le h1 (by
          have : 256 ^ (L.length - (m + 1)) ≤ 256 ^ 7 := Nat.pow_le_pow_right (by omega) (by rw [HN.out]; omega)
          exact this)
      obtain ⟨y, hy⟩ : ∃ y, nthB L m = y := ⟨_, rfl⟩
      rw [hy] at hc hy256 hu2
      have e1 : (((m + 1 : Nat) : Int) - 1) = (m : Int) := by omega
      rw [e1]
      clear hd2 hy hlt hu
      go_wp2
      go_round
      case rel => exact ⟨m, u0 * 256 + y, by omega, rfl, by go_num, hu2⟩
      case measure => simp [intOf]

theorem keepLow1 {w W W' : World} {x0 y0 : Value} (h : W.cell? ⟨w.heap.size, 0, none⟩ = some x0 ∧ W.cell? ⟨w.heap.size, 1, none⟩ = some y0 ∧ Hid (Below w.heap.size w W))
    (hb : Below (w.heap.size + 1) W W') : W'.cell? ⟨w.heap.size, 0, none⟩ = some x0 ∧ W'.cell? ⟨w.heap.size, 1, none⟩ = some y0 ∧ Hid (Below w.heap.size w W') := by
  obtain ⟨h0, h1, hw⟩ := h
  exact ⟨(hb.cell (by simp)).trans h0, (hb.cell (by simp)).trans h1, Lib.hid (hw.out.trans (hb.mono (by omega)))⟩
set_option maxRecDepth 100000 in
set_option maxHeartbeats 1000000 in
theorem rlbytes_any (s t : BitVec 64) (w : World) : Calls Tryz.prog 22 #[.agg #[U s, U t]] w fun e w' =>
    ∃ v, e = .returned v ∧ w'.ownsRow w.heap.size 5 1 v 16 (byteRow (les s 8 ++ les t 8)) ∧ Below w.heap.size w w' := by
  have h1 := fun W => rbytes_any s W
  have h2 := fun W => rbytes_any t W
  have n1 := les_length s 8
  have n2 := les_length t 8
  obtain ⟨l1, hl1⟩ : ∃ l1, les s 8 = l1 := ⟨_, rfl⟩
  obtain ⟨l2, hl2⟩ : ∃ l2, les t 8 = l2 := ⟨_, rfl⟩
  simp only [hl1] at h1
  simp only [hl2] at h2
  rw [hl1] at n1
  rw [hl2] at n2
  rw [hl1, hl2]
  clear hl1 hl2
  have H1 := Lib.hid h1
  have H2 := Lib.hid h2
  clear h1 h2
  obtain ⟨i0, hi, hz0, hz1, hz2⟩ := info_parts info_byte
  go_enter Tryz.func22, Tryz.ntmps22
  go_wp2_with fail
  obtain ⟨w0, hw0⟩ : ∃ w0, w.alloc (.cells #[U s, U t] 24) = w0 := ⟨_, rfl⟩
  have hH := more0 (U s) (U t) (Lib.hid (Below.refl w.heap.size w))
  have hsz : w0.heap.size = w.heap.size + 1 := by rw [← hw0]; simp
  rw [hw0] at hH ⊢
  have HS := Lib.hid (keep1 hH ((Below.refl _ _).drew))
  have HN := Lib.hid (byteRow_one l2)
  have hl2 : (byteRow l2).length = 8 * 1 := by rw [byteRow_length, n2]
  clear hw0 hH
  go_region_held3 (fun W => W.cell? ⟨w.heap.size, 0, none⟩ = some (U s) ∧ W.cell? ⟨w.heap.size, 1, none⟩ = some (U t) ∧ Hid (Below w.heap.size w W))
    (first | exact HS.out | exact keepLow1 (by assumption) hBl | exact keep1 (by assumption) (by assumption))
    (first
    | (go_at_call_of 40 (U s); refine (H1.out _).mono ?_; rintro e w1 ⟨v1, rfl, hr1, hB1⟩)
    | (go_at_call_of 40 (U t); refine (H2.out _).mono ?_; rintro e w2 ⟨v2, rfl, hr2, hB2⟩; obtain ⟨g2, c2, rfl, k2⟩ := byteRow_cells hr2 (by decide); have hr12 := row_lower (hr1.kept (grownBy_of_below hB2) (none_or_ne _)) (show w.heap.size + 1 ≤ w0.drew.heap.size from hsz ▸ Nat.le_refl _); have hle : w.heap.size + 1 ≤ w2.heap.size := Nat.le_trans (show w.heap.size + 1 ≤ w0.drew.heap.size from hsz ▸ Nat.le_refl _) (Nat.le_trans hB1.size hB2.size))
    | (rw [if_pos (by rfl)]; refine wp_append_own _ _ _ 25 rfl (w.heap.size + 1) 5 i0 (.int .u8 0) 1 1 Tryz.underlying25 hi hz0 hz1 hz2 rfl (by decide) v1 8 (byteRow l1) rfl hr12 ⟨g2, 0, none⟩ 8 c2 (byteRow l2) rfl hl2 k2 HN.out (by decide) (by decide) hle ?_; intro v' w' hown' hgrow _; have hBl : Below (w.heap.size + 1) w2 w' := (Below.refl _ _).grown hgrow hle (fun q ej => (hr12.lt q ej).1)))
  all_goals
    have e : byteRow (l1 ++ l2) = byteRow l1 ++ byteRow l2 := by simp [byteRow]
    have HR := Lib.hid (row_lower hown' (show w.heap.size ≤ w.heap.size + 1 by omega))
    rw [← e] at HR
    have HL := Lib.hid (last1 (w := w) (W := w') (by assumption))
    clear hown' hgrow hBl hr12 k2 hr2 hr1 HS
    go_wp2
    go_ret
    exact ⟨_, rfl, HR.out, HL.out⟩

theorem resRF : Tryz.f6.results = #[.cell 2 24, .tmp 3] := by kernel_rfl
set_option maxRecDepth 100000 in
theorem rlfrom_ok (g off cap : Nat) (L1 L2 : List Nat) (w : World) (h1 : L1.length = 8) (h2 : L2.length = 8) (k1 : ∀ x ∈ L1, x < 256) (k2 : ∀ x ∈ L2, x < 256) (hgl : g < w.heap.size) (hcap : 16 ≤ cap)
    (hcell : ∀ j, j < 16 → w.cell? ⟨g, off + j, none⟩ = some (.int .u8 (nthB (L1 ++ L2) j : Int))) :
    Calls Tryz.prog 6 #[.slice (some ⟨g, off, none⟩) 16 cap] w fun e w' =>
      e = .returned (.tuple #[.agg #[.int .u64 (ofLE L1 : Int), .int .u64 (ofLE L2 : Int)], .bool true]) ∧ Below w.heap.size w w' := by
  have hc1 : ∀ j, j < L1.length → w.cell? ⟨g, off + j, none⟩ = some (.int .u8 (nthB L1 j : Int)) := fun j hj => by
    rw [hcell j (by omega)]
    unfold nthB
    rw [List.getElem?_append_left hj]
  have hc2 : ∀ j, j < L2.length → w.cell? ⟨g, off + 8 + j, none⟩ = some (.int .u8 (nthB L2 j : Int)) := fun j hj => by
    have := hcell (8 + j) (by omega)
    rw [← Nat.add_assoc] at this
    rw [this]
    unfold nthB
    rw [List.getElem?_append_right (by omega), show 8 + j - L1.length = j by omega]
  have hF1 := fun (W : World) (hb : Below w.heap.size w W) (c : Nat) => rfrom_any g off c L1 W (by omega) k1 (fun j hj => (hb.cell (p := ⟨g, off + j, none⟩) hgl).trans (hc1 j hj))
  have hF2 := fun (W : World) (hb : Below w.heap.size w W) (c : Nat) => rfrom_any g (off + 8) c L2 W (by omega) k2 (fun j hj => (hb.cell (p := ⟨g, off + 8 + j, none⟩) hgl).trans (hc2 j hj))
  rw [h1] at hF1
  rw [h2] at hF2
  obtain ⟨n1, hn1⟩ : ∃ n, ofLE L1 = n := ⟨_, rfl⟩
  obtain ⟨n2, hn2⟩ : ∃ n, ofLE L2 = n := ⟨_, rfl⟩
  simp only [hn1] at hF1
  simp only [hn2] at hF2
  rw [hn1, hn2]
  have F1 := Lib.hid hF1
  have F2 := Lib.hid hF2
  clear hF1 hF2 hc1 hc2 hcell hn1 hn2 k1 k2 h1 h2
  go_enter Tryz.func6, Tryz.ntmps6
  go_wp2_with fail
  refine (F1.out _ (below1 w _) cap).mono ?_
  rintro e w1 ⟨rfl, hB1⟩
  have hBw1 := (below1 w (.cells #[.int .u64 0, .int .u64 0] 24)).trans (hB1.mono (below1 w _).size)
  have hx1 : w1.heap[w.heap.size]? = some (.cells #[.int .u64 0, .int .u64 0] 24) := (hB1.block _ (by simp)).trans (World.alloc_heap_new w _)
  clear hB1
  go_wp2_with fail
  refine (F2.out w1 hBw1 (cap - 8)).mono ?_
  rintro e w2 ⟨rfl, hB2⟩
  have hBw2 := hBw1.trans (hB2.mono hBw1.size)
  have hx2 : w2.heap[w.heap.size]? = some (.cells #[.int .u64 0, .int .u64 0] 24) := (hB2.block _ (Array.getElem?_eq_some_iff.1 hx1).1).trans hx1
  clear hB2 hx1 F1 F2 hBw1
  have c0 : w2.cell? ⟨w.heap.size, 0, none⟩ = some (.int .u64 0) := cell_of_row _ _ _ _ _ _ hx2
  have f0 := frozen_of_row w2 w.heap.size 0 _ _ hx2
  have f1 := frozen_of_row w2 w.heap.size 1 _ _ hx2
  have hx3 := heap_setCell_same w2 w.heap.size 0 _ _ (.int .u64 (n1 : Int)) hx2
  have c1 : (w2.setCell ⟨w.heap.size, 0, none⟩ (.int .u64 (n1 : Int))).cell? ⟨w.heap.size, 1, none⟩ = some (.int .u64 0) := cell_of_row _ _ _ _ _ _ hx3
  have hx4 := heap_setCell_same _ w.heap.size 1 _ _ (.int .u64 (n2 : Int)) hx3
  have HX := Lib.hid hx4
  have hB5 := (hBw2.setCell (p := ⟨w.heap.size, 0, none⟩) (Nat.le_refl _) (.int .u64 (n1 : Int))).setCell (p := ⟨w.heap.size, 1, none⟩) (Nat.le_refl _) (.int .u64 (n2 : Int))
  have HB := Lib.hid hB5
  clear hx2 hx3 hx4 hB5
  go_wp2
  exact bodyPost_ret (lab_results2 resRF _ _ _ _ _ _ _ rfl HX.out) rfl ⟨rfl, HB.out⟩

set_option maxRecDepth 100000 in
theorem lfrom_no (a : Option Addr) (n cap : Nat) (w : World) (h : n ≠ 16) : Calls Tryz.prog 5 #[.slice a n cap] w fun e w' => e = .returned (.tuple #[lit2 0 0, .bool false]) ∧ Below w.heap.size w w' := by
  have hb : ((n : Int) != 16) = true := by rw [bne_iff_ne]; omega
  have hb2 : ¬ (n : Int) = 16 := by omega
  go_enter Tryz.func5, Tryz.ntmps5
  go_wp2
  exact bodyPost_ret (lab_results2 res45 _ _ _ _ _ _ _ rfl (World.alloc_heap_new w _)) rfl ⟨rfl, below1 w _⟩

set_option maxRecDepth 100000 in
theorem rlfrom_no (a : Option Addr) (n cap : Nat) (w : World) (h : n ≠ 16) : Calls Tryz.prog 6 #[.slice a n cap] w fun e w' => e = .returned (.tuple #[lit2 0 0, .bool false]) ∧ Below w.heap.size w w' := by
  have hb : ((n : Int) != 16) = true := by rw [bne_iff_ne]; omega
  have hb2 : ¬ (n : Int) = 16 := by omega
  go_enter Tryz.func6, Tryz.ntmps6
  go_wp2
  exact bodyPost_ret (lab_results2 resRF _ _ _ _ _ _ _ rfl (World.alloc_heap_new w _)) rfl ⟨rfl, below1 w _⟩

end Go.Proofs.YtegjlgdbipfpaaaGreatDoor
