/-
  concordatref00.SameBytes at rows of bytes.
-/
import Derived.Test.YtegjlgdbipfpaaaGreatDoorLabF
namespace Go.Proofs.YtegjlgdbipfpaaaGreatDoor
open Go Go.RowKit

set_option maxRecDepth 100000 in
set_option maxHeartbeats 1000000 in
theorem sameB_at (b1 c1 b2 c2 n : Nat) (L : List Nat) (w : World) (hm : n ≤ 100)
    (h1 : ∀ j, j < n → w.cell? ⟨b1, j, none⟩ = some (.int .u8 (nthB L j : Int))) (h2 : ∀ j, j < n → w.cell? ⟨b2, j, none⟩ = some (.int .u8 (nthB L j : Int))) :
    Calls Tryz.prog 20 #[.slice (some ⟨b1, 0, none⟩) n c1, .slice (some ⟨b2, 0, none⟩) n c2] w fun e w' => e = .returned (.bool true) ∧ Below w.heap.size w w' := by
  have hlt1 : ∀ j, j < n → b1 < w.heap.size := fun j hj => World.block_lt_of_cell? w _ (h1 j hj)
  have hlt2 : ∀ j, j < n → b2 < w.heap.size := fun j hj => World.block_lt_of_cell? w _ (h2 j hj)
  have H1 := Lib.hid h1
  have H2 := Lib.hid h2
  have HL1 := Lib.hid hlt1
  have HL2 := Lib.hid hlt2
  clear h1 h2 hlt1 hlt2
  have hb : ((n : Int) != (n : Int)) = false := by simp
  go_enter Tryz.func20, Tryz.ntmps20
  go_wp2
  go_loopw [5] (fun i wr => ∃ k : Nat, k ≤ n ∧ i = .int .i64 k ∧ Below w.heap.size w wr) (fun i _ => n - (intOf i).toNat)
  case atStart => exact ⟨0, Nat.zero_le _, rfl, Below.refl _ _⟩
  case round =>
    obtain ⟨k, hk, rfl, hB⟩ := hrel
    by_cases hlt : k < n
    · have x1 := (hB.cell (p := ⟨b1, k, none⟩) (HL1.out k hlt)).trans (H1.out k hlt)
      have x2 := (hB.cell (p := ⟨b2, k, none⟩) (HL2.out k hlt)).trans (H2.out k hlt)
      obtain ⟨y, hy⟩ : ∃ y, nthB L k = y := ⟨_, rfl⟩
      rw [hy] at x1 x2
      clear hy
      have hne : ((y : Int) != (y : Int)) = false := by simp
      go_wp2
      go_quiet (fail)
      go_wp2
      go_roundw
      case rel => exact ⟨k + 1, by omega, by go_num, below_drewN hB _⟩
      case measure => simp [intOf]; omega
    · go_wp2
      go_ret
      exact ⟨rfl, hB⟩
theorem sameB_rows (v1 v2 : Value) (base1 base2 n : Nat) (L : List Nat) (w : World) (hn : L.length = n) (hm : n ≤ 100) (hp : 0 < n)
    (h1 : w.ownsRow base1 5 1 v1 n (byteRow L)) (h2 : w.ownsRow base2 5 1 v2 n (byteRow L)) :
    Calls Tryz.prog 20 #[v1, v2] w fun e w' => e = .returned (.bool true) ∧ Below w.heap.size w w' := by
  obtain ⟨g1, c1, rfl, k1⟩ := byteRow_cells h1 hp
  obtain ⟨g2, c2, rfl, k2⟩ := byteRow_cells h2 hp
  have hr : ∀ j, j < n → (byteRow L)[j]? = some (.int .u8 (nthB L j : Int)) := fun j hj => by
    unfold byteRow nthB
    rw [List.getElem?_map, List.getElem?_eq_getElem (by omega)]
    rfl
  have a1 := fun j (hj : j < n) => k1 j _ (hr j hj)
  have a2 := fun j (hj : j < n) => k2 j _ (hr j hj)
  simp only [Addr.add_lit, Nat.zero_add] at a1 a2
  exact sameB_at g1 c1 g2 c2 n L w hm a1 a2
end Go.Proofs.YtegjlgdbipfpaaaGreatDoor
