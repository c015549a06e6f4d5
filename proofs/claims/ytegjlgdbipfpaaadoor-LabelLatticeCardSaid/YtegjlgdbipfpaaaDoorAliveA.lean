/-
  concordatlaw06.alive: it answers true.
-/
import Derived.Test.YtegjlgdbipfpaaaDoorSame
namespace Go.Proofs.YtegjlgdbipfpaaaDoor
open Go Go.RowKit

def show2 (s : BitVec 64) : List UInt8 := if s = 0#64 then noneText else Lib.join ((spansOf (cats s)).map fun p => text2 p.1 p.2) [44]
theorem showL_eq (s : BitVec 64) : showL s = show2 s := by
  unfold showL show2 texts
  by_cases h : s = 0#64
  · rw [if_pos h, if_pos h]; rfl
  · rw [if_neg h, if_neg h]
    congr 1
    apply List.map_congr_left
    intro p hp
    have := spans_lt hp
    exact spanText_eq p.1 p.2 (by omega) (by omega)

theorem ints_new (w : World) (t : TypeId) (L : List Int) : IntsAt (w.alloc (.cells (L.map (Value.int .i64)).toArray t)) (.slice (some ⟨w.heap.size, 0, none⟩) L.length L.length) L := by
  refine .inr ⟨w.heap.size, 0, L.length, rfl, fun j hj => ?_⟩
  have h := World.alloc_heap_new w (.cells (L.map (Value.int .i64)).toArray t)
  unfold World.cell?
  rw [h]
  simp [hj]

theorem of_lit (w : World) : Calls Tryd.prog 17 #[.slice (some ⟨w.heap.size, 0, none⟩) 3 3] (w.alloc (.cells #[.int .i64 3, .int .i64 0, .int .i64 1] 3)) fun e w' =>
    e = .returned (.tuple #[.int .u64 11, .bool true]) ∧ w.alloc (.cells #[.int .i64 3, .int .i64 0, .int .i64 1] 3) = w' :=
  of_any _ [3, 0, 1] _ (ints_new w 3 [3, 0, 1]) (by decide)

theorem read_lit (w : World) (hg : gTop ≤ w.heap.size) (hl : Laid w) :
    Calls Tryd.prog 19 #[.string ⟨#[48, 45, 49, 44, 51]⟩] w fun e w' => e = .returned (.tuple #[.int .u64 11, .bool true]) ∧ Below w.heap.size w w' := by
  have hs : showL 11#64 = [48, 45, 49, 44, 51] := by rw [showL_eq]; decide +kernel
  refine (read_any [48, 45, 49, 44, 51] (by decide) w hg hl).mono fun e w' ⟨hb, hr⟩ => ⟨?_, hb⟩
  rcases hr with ⟨s, h, he⟩ | ⟨h, _⟩
  · have : s = 11#64 := show_inj (h.trans hs.symm)
    subst this
    exact he
  · exact absurd hs (h _)
theorem show_lit (w : World) (hg : gTop ≤ w.heap.size) (hl : Laid w) :
    Calls Tryd.prog 30 #[.int .u64 11] w fun e w' => e = .returned (.string ⟨#[48, 45, 49, 44, 51]⟩) ∧ Below w.heap.size w w' := by
  have hs : showL 11#64 = [48, 45, 49, 44, 51] := by rw [showL_eq]; decide +kernel
  have := show_any 11#64 w hg hl
  rw [hs] at this
  exact this
theorem list_lit (w : World) (hl : Laid w) (hg : gTop ≤ w.heap.size) :
    Calls Tryd.prog 22 #[.int .u64 11] w fun e w' => ∃ v, e = .returned v ∧ IntsAt w' v [0, 1, 3] ∧ Below w.heap.size w w' := by
  refine (list_any 11#64 w hl hg).mono fun e w' ⟨v, he, hr, hb⟩ => ⟨v, he, ?_, hb⟩
  have hc : cats 11#64 = [0, 1, 3] := by decide +kernel
  rw [hc] at hr
  exact intsAt_row hr

theorem pool_lit (w : World) : Calls Tryd.prog 32 #[.int .u64 3] w fun e w' => e = .returned (.pointer (some ⟨w.heap.size, 0, none⟩)) ∧ w.alloc (.cells #[.int .u64 3] 87) = w' := newPool_any 3#64 w
theorem taken_lit (b : Nat) (w : World) (hb : Boxed w b 87 (.int .u64 31)) : Calls Tryd.prog 37 #[.pointer (some ⟨b, 0, none⟩)] w fun e w' => e = .returned (.int .u64 31) ∧ w = w' := taken_any b 31#64 w hb
theorem low_lit : low (~~~3#64) = 2 := by decide +kernel
theorem grab_lit : grab 7#64 2 = 24#64 := by decide +kernel
theorem take_lit (b : Nat) (w : World) (hl : Laid w) (hg : gTop ≤ b) (hb : Boxed w b 87 (.int .u64 3)) :
    Calls Tryd.prog 33 #[.pointer (some ⟨b, 0, none⟩)] w fun e w' => e = .returned (.tuple #[.int .i64 2, .int .i64 0]) ∧ Boxed w' b 87 (.int .u64 7) ∧ Below b w w' := by
  refine (take_ok b 3#64 w hl hg hb (by decide)).mono fun e w' ⟨he, hw⟩ => ?_
  rw [low_lit] at he hw
  subst hw
  exact ⟨he, hb.set _, (Below.refl b w).setCell (p := ⟨b, 0, none⟩) (Nat.le_refl _) _⟩
theorem many_lit (b : Nat) (w : World) (hl : Laid w) (hb : Boxed w b 87 (.int .u64 7)) :
    Calls Tryd.prog 35 #[.pointer (some ⟨b, 0, none⟩), .int .i64 2] w fun e w' => e = .returned (.tuple #[.int .u64 24, .int .i64 0]) ∧ Boxed w' b 87 (.int .u64 31) ∧ Below b w w' := by
  refine (many_ok b 7#64 2 w hl hb (by decide) (by decide +kernel)).mono fun e w' ⟨he, hw⟩ => ?_
  rw [grab_lit] at he hw
  subst hw
  exact ⟨he, hb.set _, (Below.refl b w).setCell (p := ⟨b, 0, none⟩) (Nat.le_refl _) _⟩

set_option maxHeartbeats 1000000 in
set_option maxRecDepth 100000 in
theorem alive_any (w : World) (hg : gTop ≤ w.heap.size) (hl : Laid w) :
    Calls Tryd.prog 15 #[] w fun e w' => e = .returned (.bool true) ∧ Below w.heap.size w w' := by
  have HOF := Lib.hid (of_lit w)
  have HL := Lib.hid hl
  clear hl
  go_enter Tryd.func15, Tryd.ntmps15
  go_wp2_with fail
  refine HOF.out.mono ?_
  rintro e w1 ⟨rfl, rfl⟩
  have hB1 : Below w.heap.size w (w.alloc (.cells #[.int .i64 3, .int .i64 0, .int .i64 1] 3)) := (Below.refl _ w).alloc (Nat.le_refl _) _
  go_wp2_with fail
  refine (read_lit _ (Nat.le_trans hg hB1.size) (HL.out.below hB1)).mono ?_
  rintro e w2 ⟨rfl, hb2⟩
  have hB2 := hB1.trans (hb2.mono hB1.size)
  clear hb2
  have hs2 := hB2.size
  go_wp2_with fail
  refine (pool_lit w2).mono ?_
  rintro e w3 ⟨rfl, rfl⟩
  have hB3 := hB2.alloc hs2 (.cells #[.int .u64 3] 87)
  have p3 := Boxed.new w2 87 (.int .u64 3)
  go_wp2_with fail
  refine (take_lit w2.heap.size _ (HL.out.below hB3) (Nat.le_trans hg hs2) p3).mono ?_
  rintro e w4 ⟨rfl, p4, hb4⟩
  have hB4 := hB3.trans (hb4.mono hs2)
  clear hb4 p3
  go_wp2_with fail
  refine (many_lit w2.heap.size _ (HL.out.below hB4) p4).mono ?_
  rintro e w5 ⟨rfl, p5, hb5⟩
  have hB5 := hB4.trans (hb5.mono hs2)
  have hlt5 := p5.lt
  clear hb5 p4
  go_wp2_with fail
  refine (show_lit _ (Nat.le_trans hg hB5.size) (HL.out.below hB5)).mono ?_
  rintro e w6 ⟨rfl, hb6⟩
  have hB6 := hB5.trans (hb6.mono hB5.size)
  have p6 := box_later hb6 p5
  have hlt6 := p6.lt
  clear hb6 p5 hlt5
  go_wp2_with fail
  refine (list_lit _ (HL.out.below hB6) (Nat.le_trans hg hB6.size)).mono ?_
  rintro e w7 ⟨v7, rfl, hv7, hb7⟩
  have hB7 := hB6.trans (hb7.mono hB6.size)
  have p7 := box_later hb7 p6
  have hlt7 := p7.lt
  clear hb7 p6 hlt6
  have hv8 := hv7.below ((Below.refl w7.heap.size w7).alloc (Nat.le_refl _) (.cells #[.int .i64 0, .int .i64 1, .int .i64 3] 3))
  have hB8 := hB7.alloc hB7.size (.cells #[.int .i64 0, .int .i64 1, .int .i64 3] 3)
  have p8 := p7.alloc (.cells #[.int .i64 0, .int .i64 1, .int .i64 3] 3)
  have HS := Lib.hid (same_any v7 _ [0, 1, 3] [0, 1, 3] _ hv8 (ints_new w7 3 [0, 1, 3]) (by decide))
  clear hv7 hv8
  go_wp2_with fail
  refine HS.out.mono ?_
  rintro e w9 ⟨rfl, hb9⟩
  have hB9 := hB8.trans (hb9.mono hB8.size)
  have p9 := box_later hb9 p8
  have hlt9 := p9.lt
  clear hb9 p7 p8 hlt7
  go_wp2_with fail
  refine (has_any 11#64 3 w9).mono ?_
  rintro e w' ⟨rfl, rfl⟩
  go_wp2_with fail
  refine (has_any 11#64 2 w9).mono ?_
  rintro e w' ⟨rfl, rfl⟩
  go_wp2_with fail
  refine (within_any 3#64 11#64 w9).mono ?_
  rintro e w' ⟨rfl, rfl⟩
  go_wp2_with fail
  refine (within_any 4#64 11#64 w9).mono ?_
  rintro e w' ⟨rfl, rfl⟩
  go_wp2_with fail
  refine (minus_any 11#64 2#64 w9).mono ?_
  rintro e w' ⟨rfl, rfl⟩
  go_wp2_with fail
  refine (taken_lit w2.heap.size w9 p9).mono ?_
  rintro e w' ⟨rfl, rfl⟩
  go_wp2
  go_ret
  exact ⟨rfl, hB9⟩
end Go.Proofs.YtegjlgdbipfpaaaDoor
