/-
  The reference's List.
-/
import Derived.Test.YtegjlgdbipfpaaaGreatDoorRefC
import Derived.Test.YtegjlgdbipfpaaaGreatDoorLaw4
import Derived.Test.YtegjlgdbipfpaaaGreatDoorLaw8
namespace Go.Proofs.YtegjlgdbipfpaaaGreatDoor
open Go Go.RowKit

set_option maxRecDepth 100000 in
set_option maxHeartbeats 1000000 in
theorem ref_list (s : BitVec 64) (w : World) : Calls Tryz.prog 56 #[U s] w fun e w' => ∃ v, e = .returned v ∧ IntsAt w' v (toInts (cats s)) ∧ Below w.heap.size w w' := by
  obtain ⟨i0, hi, hz0, hz1, hz2⟩ := info_parts info_int
  unfold U
  go_enter Tryz.func56, Tryz.ntmps56
  go_wp2_with fail
  go_loopw [3, 4] (fun u c wr => ∃ k : Nat, k ≤ 64 ∧ c = .int .i64 k ∧ wr.ownsRow w.heap.size 3 1 u (catsTo s k).length (ints (catsTo s k)) ∧ Below w.heap.size w wr) (fun _ c _ => 64 - (intOf c).toNat)
  case atStart => exact ⟨0, by omega, rfl, World.ownsRow_made _ _ _ (Nat.le_refl _) (by decide) rfl, (Below.refl _ _).alloc (Nat.le_refl _) _⟩
  case round =>
    obtain ⟨k, hk, rfl, hown, hBr⟩ := hrel
    by_cases hk64 : k < 64
    · have hh := ref_has s (k : Int) wr
      rw [has_nat] at hh
      cases hb : s.getLsbD k
      · rw [hb] at hh
        have HH := Lib.hid hh
        have HS := Lib.hid (catsTo_no s k hb)
        have hr2 := hown
        rw [← HS.out] at hr2
        have hrow := Lib.hid hr2
        clear hr2
        clear hh hb hown
        unfold U at HH
        go_wp2_with fail
        refine HH.out.mono ?_
        rintro e w' ⟨rfl, rfl⟩
        go_wp2
        go_roundw
        case rel => exact ⟨k + 1, by omega, by go_num, hrow.out, hBr⟩
        case measure => simp [intOf]; omega
      · rw [hb] at hh
        have HH := Lib.hid hh
        have HS := Lib.hid (catsTo_yes s k hb)
        have hcl := catsTo_length s k
        have hA1 : (catsTo s k).length + 1 ≤ maxLen := by unfold maxLen; omega
        have hA2 : ((catsTo s k).length + 1) * 8 ≤ 140737488355328 := by omega
        have hA3 : w.heap.size ≤ (wr.alloc (.cells #[.int .i64 (k : Int)] 3)).heap.size := by rw [World.size_alloc]; have := hBr.size; omega
        clear hh hb
        unfold U at HH
        go_wp2_with fail
        refine HH.out.mono ?_
        rintro e w' ⟨rfl, rfl⟩
        go_wp2_with (at_builtin; refine wpList_append_own _ rfl _ _ 48 rfl w.heap.size 3 i0 (.int .i64 0) 1 8 Tryz.underlying48 hi hz0 hz1 hz2 rfl (by decide) _ _ _ rfl (hown.alloc _) ⟨wr.heap.size, 0, none⟩ 1 1 [.int .i64 (k : Int)] rfl rfl (cell_one_new _ _ _) (by simp [Value.oneCell']) hA1 hA2 hA3 ?_; intro v' w2 hown' hgrow _)
        have hB3 := (hBr.alloc hBr.size (.cells #[.int .i64 (k : Int)] 3)).grown hgrow (by simp; have := hBr.size; omega) (fun q ej => (hown.lt q ej).1)
        have hrow3 : Hid (w2.ownsRow w.heap.size 3 1 v' (catsTo s (k + 1)).length (ints (catsTo s (k + 1)))) := by
          rw [HS.out, ints_snoc, List.length_append]; exact hown'
        clear hown hown' hgrow
        go_roundw
        case rel => exact ⟨k + 1, by omega, by go_num, hrow3.out, hB3⟩
        case measure => simp [intOf]; omega
    · obtain rfl : k = 64 := by omega
      rw [catsTo_all] at hown
      have hat := Lib.hid (intsAt_row hown)
      clear hown
      go_wp2
      go_ret
      exact ⟨_, rfl, hat.out, hBr⟩
end Go.Proofs.YtegjlgdbipfpaaaGreatDoor
