/-
  A slice of bytes that came in, opened.
-/
import Derived.Test.YtegjlgdbipfpaaaGreatDoorRfH
import Derived.Test.YtegjlgdbipfpaaaGreatDoorFrame
namespace Go.Proofs.YtegjlgdbipfpaaaGreatDoor
open Go Go.RowKit Go.ChangeShapes Go.WideShapes Go.ChangeAt

theorem u8_wf {n : Int} (h : (Lit.int .u8 n).wf = true) : 0 ≤ n ∧ n < 256 := by
  have e1 : IntKind.u8.min = 0 := rfl
  have e2 : IntKind.u8.max = 255 := by decide
  simp [Lit.wf, e1, e2] at h
  omega
theorem bytes_of {H : Type} {enc : TypeId × Value → H} {W : World} {a : Option Addr} {len cap fuel : Nat} {x : DataW H × List MemPlace}
    (h : DataW.trod enc Tryz.prog W 0 (fun _ => true) true fuel 25 [.slice a len cap] = some x) : FromSame len cap a W := by
  rcases open_ints Tryz.underlying25 Tryz.underlying5 (by kernel_rfl) h with ⟨hcs, hx⟩ | ⟨a', len', cap', zs, hcs, _, hl, hm, hz, hx, hcell, hwz⟩
  · simp only [List.cons.injEq, Value.slice.injEq, and_true] at hcs
    obtain ⟨rfl, rfl, rfl⟩ := hcs
    exact from_same none 0 0 W (Nat.le_refl _) (fun h => by cases h)
  · simp only [List.cons.injEq, Value.slice.injEq, and_true] at hcs
    obtain ⟨rfl, rfl, rfl⟩ := hcs
    simp only [if_true] at hz
    refine from_same _ _ _ W hl (fun h16 => ?_)
    subst h16
    obtain ⟨b, off, rfl, hc⟩ := ints_at hcell (by omega)
    refine ⟨b, off, (zs.take 16).map Int.toNat, rfl, ?_, by rw [List.length_map, List.length_take]; omega, fun y hy => ?_, fun j hj => ?_⟩
    · have := hc 0 (by omega)
      exact World.block_lt_of_cell? W _ this
    · obtain ⟨z, hz1, rfl⟩ := List.mem_map.1 hy
      have := u8_wf (hwz z (List.mem_of_mem_take hz1))
      omega
    · rw [hc j (by omega)]
      have hlt : j < zs.length := by omega
      have hz0 := u8_wf (hwz zs[j] (List.getElem_mem hlt))
      have : nthB ((zs.take 16).map Int.toNat) j = zs[j].toNat := by
        unfold nthB
        simp [hj, hlt]
      rw [this]
      simp [List.getD_eq_getElem?_getD, hlt]
      omega
end Go.Proofs.YtegjlgdbipfpaaaGreatDoor
