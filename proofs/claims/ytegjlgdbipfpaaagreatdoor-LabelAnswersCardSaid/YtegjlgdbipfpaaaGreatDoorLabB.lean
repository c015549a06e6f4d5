/-
  word.Bytes, word.From; slices.Concat; label.Bytes, label.From.
-/
import Derived.Test.YtegjlgdbipfpaaaGreatDoorLabA
import Derived.Test.YtegjlgdbipfpaaaGreatDoorLaw8
import Derived.Lib.AppendZeros
namespace Go.Proofs.YtegjlgdbipfpaaaGreatDoor
open Go Go.RowKit

/-- A set's bytes, the lowest first. -/
def le (s : BitVec 64) (k : Nat) : Nat := s.toNat / 256 ^ k % 256
def les (s : BitVec 64) (n : Nat) : List Nat := (List.range n).map (le s)
theorem les_succ (s : BitVec 64) (n : Nat) : les s (n + 1) = les s n ++ [le s n] := by unfold les; rw [List.range_succ, List.map_append]; rfl
theorem les_length (s : BitVec 64) (n : Nat) : (les s n).length = n := by simp [les]
/-- Bytes as a row's cells. -/
def byteRow (l : List Nat) : List Value := l.map fun (b : Nat) => Value.int .u8 (b : Int)
theorem byteRow_snoc (l : List Nat) (b : Nat) : byteRow (l ++ [b]) = byteRow l ++ [.int .u8 (b : Int)] := by simp [byteRow]
theorem info_byte : (Tryz.prog.info? 5).map (fun i => (i.zero, i.size, i.bytes)) = some (some (.int .u8 0), 1, 1) := by kernel_rfl

theorem wwithin_any (n a b : Int) (h : a ≤ n ∧ n ≤ b) (w : World) : Calls Tryz.prog 52 #[.int .i64 n, .int .i64 a, .int .i64 b] w fun e w' => e = .returned (.bool true) ∧ w = w' := by
  obtain ⟨h1, h2⟩ := h
  go_enter Tryz.func52, Tryz.ntmps52
  go_wp2
  go_ret
  exact ⟨rfl, rfl⟩

set_option maxRecDepth 100000 in
theorem wbytes_any (s : BitVec 64) (w : World) : Calls Tryz.prog 39 #[U s, .int .i64 8] w fun e w' =>
    ∃ v, e = .returned v ∧ w'.ownsRow w.heap.size 5 1 v 8 (byteRow (les s 8)) ∧ Below w.heap.size w w' := by
  obtain ⟨i0, hi, hz0, hz1, hz2⟩ := info_parts info_byte
  have hs := s.isLt
  have hz : ((s.toNat : Int) / 18446744073709551616) = 0 := by omega
  unfold U
  go_enter Tryz.func39, Tryz.ntmps39
  go_wp2_with (go_at_call 52; refine (wwithin_any _ _ _ (by omega) _).mono ?_; rintro e w' ⟨rfl, rfl⟩)
  go_loopw [0, 5, 17] (fun u v c wr => ∃ k d : Nat, k ≤ 8 ∧ c = .int .i64 k ∧ u = .int .u64 (d : Int) ∧ Hid (d = s.toNat / 256 ^ k) ∧ wr.ownsRow w.heap.size 5 1 v k (byteRow (les s k)) ∧ Below w.heap.size w wr) (fun _ _ c _ => 8 - (intOf c).toNat)
  case atStart => exact ⟨0, s.toNat, by omega, rfl, rfl, Lib.hid (by simp), World.ownsRow_nil _ _ _ _, Below.refl _ _⟩
  case round =>
    obtain ⟨k, d, hk, rfl, rfl, hd, hown, hB⟩ := hrel
    by_cases hlt : k < 8
    · have hd64 : d < 18446744073709551616 := by rw [hd.out]; exact Nat.lt_of_le_of_lt (Nat.div_le_self _ _) (by omega)
      have hA1 : k + 1 ≤ maxLen := by unfold maxLen; omega
      have hA2 : (k + 1) * 1 ≤ 140737488355328 := by omega
      have hA3 : w.heap.size ≤ (wr.alloc (.cells #[.int .u8 ((d : Int) % 256)] 5)).heap.size := by rw [World.size_alloc]; have := hB.size; omega
      have hd' : Hid (d / 256 = s.toNat / 256 ^ (k + 1)) := Lib.hid (by rw [hd.out, Nat.div_div_eq_div_mul, Nat.pow_succ])
      have hb : Hid (le s k = d % 256) := Lib.hid (by unfold le; rw [hd.out])
      go_wp2_with (at_builtin; refine wpList_append_own _ rfl _ _ 25 rfl w.heap.size 5 i0 (.int .u8 0) 1 1 Tryz.underlying25 hi hz0 hz1 hz2 rfl (by decide) _ _ _ rfl (hown.alloc _) ⟨wr.heap.size, 0, none⟩ 1 1 [.int .u8 ((d : Int) % 256)] rfl rfl (cell_one_new _ _ _) (by simp [Value.oneCell']) hA1 hA2 hA3 ?_; intro v' w2 hown' hgrow _)
      have hB3 := (hB.alloc hB.size (.cells #[.int .u8 ((d : Int) % 256)] 5)).grown hgrow (by simp; have := hB.size; omega) (fun q ej => (hown.lt q ej).1)
      have hrow3 : Hid (w2.ownsRow w.heap.size 5 1 v' (k + 1) (byteRow (les s (k + 1)))) := Lib.hid (by
        rw [les_succ, byteRow_snoc, hb.out]; exact hown')
      clear hown hown' hgrow
      go_roundw
      case rel => exact ⟨k + 1, d / 256, by omega, by go_num, by simp, hd', hrow3.out, hB3⟩
      case measure => simp [intOf]; omega
    · obtain rfl : k = 8 := by omega
      go_wp2
      go_ret
      exact ⟨_, rfl, hown, hB⟩

set_option maxRecDepth 100000 in
theorem grow_nil (n : Nat) (hn : 0 < n) (hm : n ≤ 64) (w : World) : Calls Tryz.prog 51 #[.slice none 0 0, .int .i64 n] w fun e w' =>
    ∃ v, e = .returned v ∧ w'.ownsRow w.heap.size 5 1 v 0 [] ∧ Below w.heap.size w w' := by
  obtain ⟨i0, hi, hz0, hz1, hz2⟩ := info_parts info_byte
  have hge := grownCap_ge w n 0 5
  have hcm : grownCap w n 0 5 ≤ maxLen := grownCap_le_maxLen w n 0 5 (by unfold maxLen; omega)
  have happ := Lib.run_append_nil_zeros (P := Tryz.prog) w 25 3 25 5 i0 (.int .u8 0) .i64 .i64 Tryz.underlying25 Tryz.underlying3 hi hz0 n hn (by omega) (by omega) (by rw [hz2]; omega)
  obtain ⟨c, hc⟩ : ∃ c, grownCap w n 0 5 = c := ⟨_, rfl⟩
  rw [hc] at hge hcm happ
  obtain ⟨cur, hcur⟩ : ∃ cur, Builtin.zeroCells (Value.int .u8 0).cells n ++ Builtin.zeroCells (Value.int .u8 0).cells (c - n) = cur := ⟨_, rfl⟩
  have hsz : cur.size = c := by rw [← hcur, Array.size_append, size_zeroCells, size_zeroCells]; simp [Value.cells]; omega
  rw [hcur] at happ
  have HA := Lib.hid happ
  have hcn1 : 0 ≤ c := Nat.zero_le _
  clear happ hc hcur
  unfold maxLen at hcm
  go_enter Tryz.func51, Tryz.ntmps51
  go_wp2_with (at_builtin; refine Lib.wpList_append_run _ rfl _ _ 25 3 rfl _ _ rfl rfl _ _ HA.out ?_)
  go_ret
  refine ⟨_, rfl, ⟨rfl, .inr ⟨w.heap.size, c, cur, rfl, Nat.le_refl _, ?_, Nat.zero_le _, hcm, by rw [hsz, Nat.mul_one], by simp⟩⟩, ?_⟩
  · exact World.alloc_heap_new w.drew _
  · exact ((Below.refl _ w).drew).alloc (Nat.le_refl _) _

set_option maxRecDepth 100000 in
set_option maxHeartbeats 1000000 in
theorem concat_two (g b1 c1 b2 c2 : Nat) (xs ys : List Value) (w : World) (hx : xs.length = 8) (hy : ys.length = 8)
    (h1 : w.cell? ⟨g, 0, none⟩ = some (.slice (some ⟨b1, 0, none⟩) 8 c1)) (h2 : w.cell? ⟨g, 1, none⟩ = some (.slice (some ⟨b2, 0, none⟩) 8 c2))
    (k1 : ∀ j u, xs[j]? = some u → w.cell? ((⟨b1, 0, none⟩ : Addr).add j) = some u) (k2 : ∀ j u, ys[j]? = some u → w.cell? ((⟨b2, 0, none⟩ : Addr).add j) = some u)
    (o1 : ∀ u ∈ xs, u.oneCell' = true) (o2 : ∀ u ∈ ys, u.oneCell' = true) :
    Calls Tryz.prog 38 #[.slice (some ⟨g, 0, none⟩) 2 2] w fun e w' =>
      ∃ v, e = .returned v ∧ w'.ownsRow w.heap.size 5 1 v 16 (xs ++ ys) ∧ Below w.heap.size w w' := by
  obtain ⟨i0, hi, hz0, hz1, hz2⟩ := info_parts info_byte
  have hgl := World.block_lt_of_cell? w _ h1
  have K1 := Lib.hid k1
  have K2 := Lib.hid k2
  have O1 := Lib.hid o1
  have O2 := Lib.hid o2
  clear k1 k2 o1 o2
  go_enter Tryz.func38, Tryz.ntmps38
  go_wp2_with fail
  go_loop [3, 11] (fun s c => (c = .int .i64 0 ∧ s = .int .i64 0) ∨ (c = .int .i64 1 ∧ s = .int .i64 8) ∨ (c = .int .i64 2 ∧ s = .int .i64 16)) (fun _ c => 2 - (intOf c).toNat)
  case atStart => exact .inl ⟨rfl, rfl⟩
  case round =>
    rcases hrel with ⟨rfl, rfl⟩ | ⟨rfl, rfl⟩ | ⟨rfl, rfl⟩
    · go_wp2
      go_round
      case rel => exact .inr (.inl ⟨rfl, rfl⟩)
      case measure => simp [intOf]
    · go_wp2
      go_round
      case rel => exact .inr (.inr ⟨rfl, rfl⟩)
      case measure => simp [intOf]
    · go_wp2_with fail
      refine (grow_nil 16 (by omega) (by omega) w).mono ?_
      rintro e w1 ⟨v0, rfl, hown0, hB⟩
      go_wp2_with fail
      go_loopw [6, 27] (fun v c wr => Below w.heap.size w wr ∧ ((c = .int .i64 0 ∧ wr.ownsRow w.heap.size 5 1 v 0 []) ∨ (c = .int .i64 1 ∧ wr.ownsRow w.heap.size 5 1 v 8 xs) ∨ (c = .int .i64 2 ∧ wr.ownsRow w.heap.size 5 1 v 16 (xs ++ ys)))) (fun _ c _ => 2 - (intOf c).toNat)
      case atStart => exact ⟨hB, .inl ⟨rfl, hown0⟩⟩
      case round =>
        obtain ⟨hBr, hrel⟩ := hrel
        have hs0 := hBr.size
        have x1 := (hBr.cell (p := ⟨g, 0, none⟩) hgl).trans h1
        have x2 := (hBr.cell (p := ⟨g, 1, none⟩) hgl).trans h2
        rcases hrel with ⟨rfl, hown⟩ | ⟨rfl, hown⟩ | ⟨rfl, hown⟩
        · have hn1 : xs.length = 8 * 1 := by omega
          have kk : ∀ j u, xs[j]? = some u → wr.cell? ((⟨b1, 0, none⟩ : Addr).add j) = some u := fun j u hj => by
            have h := K1.out j u hj
            exact (hBr.cell (World.block_lt_of_cell? w _ h)).trans h
          have KK := Lib.hid kk
          clear kk
          go_wp2_with (at_builtin; refine wpList_append_own _ rfl _ _ 25 rfl w.heap.size 5 i0 (.int .u8 0) 1 1 Tryz.underlying25 hi hz0 hz1 hz2 rfl (by decide) _ _ _ rfl hown ⟨b1, 0, none⟩ 8 c1 xs rfl hn1 KK.out O1.out (by decide) (by decide) hs0 ?_; intro v' w2 hown' hgrow _)
          have hB3 := hBr.grown hgrow hs0 (fun q ej => (hown.lt q ej).1)
          rw [List.nil_append, Nat.zero_add] at hown'
          have HO := Lib.hid hown'
          clear hown hown' hgrow
          go_roundw
          case rel => exact ⟨hB3, .inr (.inl ⟨rfl, HO.out⟩)⟩
          case measure => simp [intOf]
        · have hn1 : ys.length = 8 * 1 := by omega
          have kk : ∀ j u, ys[j]? = some u → wr.cell? ((⟨b2, 0, none⟩ : Addr).add j) = some u := fun j u hj => by
            have h := K2.out j u hj
            exact (hBr.cell (World.block_lt_of_cell? w _ h)).trans h
          have KK := Lib.hid kk
          clear kk
          go_wp2_with (at_builtin; refine wpList_append_own _ rfl _ _ 25 rfl w.heap.size 5 i0 (.int .u8 0) 1 1 Tryz.underlying25 hi hz0 hz1 hz2 rfl (by decide) _ _ _ rfl hown ⟨b2, 0, none⟩ 8 c2 ys rfl hn1 KK.out O2.out (by decide) (by decide) hs0 ?_; intro v' w2 hown' hgrow _)
          have hB3 := hBr.grown hgrow hs0 (fun q ej => (hown.lt q ej).1)
          have HO := Lib.hid hown'
          clear hown hown' hgrow
          go_roundw
          case rel => exact ⟨hB3, .inr (.inr ⟨rfl, HO.out⟩)⟩
          case measure => simp [intOf]
        · go_wp2
          go_ret
          exact ⟨_, rfl, hown, hBr⟩
end Go.Proofs.YtegjlgdbipfpaaaGreatDoor
