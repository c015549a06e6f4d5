/-
  concordatlaw06.alive: it answers true.
-/
import Derived.Test.YtegjlgdbipfpaaaGreatDoorSame
namespace Go.Proofs.YtegjlgdbipfpaaaGreatDoor
open Go Go.RowKit

def show2 (s : BitVec 64) : List UInt8 := if s = 0#64 then noneText else Lib.join ((spansOf (cats s)).map fun p => text2 p.1 p.2) [44]
theorem showL_eq (s : BitVec 64) : showL s = show2 s := by
  unfold showL show2 texts
  by_cases h : s = 0#64
  · rw [if_pos h, if_pos h]; rfl
  · rw [if_neg h, if_neg h]
    congr 1
    apply List.map_congr_left
    intro p hp
    have := spans_lt hp
    exact spanText_eq p.1 p.2 (by omega) (by omega)

theorem ints_new (w : World) (t : TypeId) (L : List Int) : IntsAt (w.alloc (.cells (L.map (Value.int .i64)).toArray t)) (.slice (some ⟨w.heap.size, 0, none⟩) L.length L.length) L := by
  refine .inr ⟨w.heap.size, 0, L.length, rfl, fun j hj => ?_⟩
  have h := World.alloc_heap_new w (.cells (L.map (Value.int .i64)).toArray t)
  unfold World.cell?
  rw [h]
  simp [hj]

theorem read_lit (w : World) (hg : gTop ≤ w.heap.size) (hl : Laid w) :
    Calls Tryz.prog 28 #[.string ⟨#[48, 45, 49, 44, 51]⟩] w fun e w' => e = .returned (.tuple #[.int .u64 11, .bool true]) ∧ Below w.heap.size w w' := by
  have hs : showL 11#64 = [48, 45, 49, 44, 51] := by rw [showL_eq]; decide +kernel
  refine (read_any [48, 45, 49, 44, 51] (by decide) w hg hl).mono fun e w' ⟨hb, hr⟩ => ⟨?_, hb⟩
  rcases hr with ⟨s, h, he⟩ | ⟨h, _⟩
  · have : s = 11#64 := show_inj (h.trans hs.symm)
    subst this
    exact he
  · exact absurd hs (h _)
theorem show_lit (w : World) (hg : gTop ≤ w.heap.size) (hl : Laid w) :
    Calls Tryz.prog 41 #[.int .u64 11] w fun e w' => e = .returned (.string ⟨#[48, 45, 49, 44, 51]⟩) ∧ Below w.heap.size w w' := by
  have hs : showL 11#64 = [48, 45, 49, 44, 51] := by rw [showL_eq]; decide +kernel
  have := show_any 11#64 w hg hl
  rw [hs] at this
  exact this
theorem low_lit : low (~~~3#64) = 2 := by decide +kernel
theorem grab_lit : grab 7#64 2 = 24#64 := by decide +kernel
end Go.Proofs.YtegjlgdbipfpaaaGreatDoor
