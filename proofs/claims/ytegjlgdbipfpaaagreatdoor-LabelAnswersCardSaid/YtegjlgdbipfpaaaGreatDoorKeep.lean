/-
  Labels that lie in blocks of their own: behind a call that writes nothing of theirs they are as they were. (printed by keepgen.py)
-/
import Derived.Test.YtegjlgdbipfpaaaGreatDoorLabG
namespace Go.Proofs.YtegjlgdbipfpaaaGreatDoor
open Go Go.RowKit

theorem keep1 {w W W' : World} {p0 : Nat} {x0 y0 : Value} (h : W.cell? ⟨p0, 0, none⟩ = some x0 ∧ W.cell? ⟨p0, 1, none⟩ = some y0 ∧ Hid (Below w.heap.size w W))
    (hb : Below W.heap.size W W') : W'.cell? ⟨p0, 0, none⟩ = some x0 ∧ W'.cell? ⟨p0, 1, none⟩ = some y0 ∧ Hid (Below w.heap.size w W') := by
  obtain ⟨h0, h1, hw⟩ := h
  exact ⟨cell_keep h0 hb, cell_keep h1 hb, Lib.hid (hw.out.trans (hb.mono hw.out.size))⟩
theorem last1 {w W : World} {P0 P1 : Prop} (h : P0 ∧ P1 ∧ Hid (Below w.heap.size w W)) : Below w.heap.size w W := h.2.2.out
theorem more1 {w W : World} {p0 : Nat} {x0 y0 : Value} (x y : Value) (h : W.cell? ⟨p0, 0, none⟩ = some x0 ∧ W.cell? ⟨p0, 1, none⟩ = some y0 ∧ Hid (Below w.heap.size w W)) :
    (W.alloc (.cells #[x, y] 24)).cell? ⟨p0, 0, none⟩ = some x0 ∧ (W.alloc (.cells #[x, y] 24)).cell? ⟨p0, 1, none⟩ = some y0 ∧ (W.alloc (.cells #[x, y] 24)).cell? ⟨W.heap.size, 0, none⟩ = some x ∧ (W.alloc (.cells #[x, y] 24)).cell? ⟨W.heap.size, 1, none⟩ = some y ∧ Hid (Below w.heap.size w (W.alloc (.cells #[x, y] 24))) := by
  have hb := below1 W (.cells #[x, y] 24)
  obtain ⟨h0, h1, hw⟩ := keep1 h hb
  exact ⟨h0, h1, (Box2.new W x y).c0, (Box2.new W x y).c1, hw⟩
theorem keep2 {w W W' : World} {p0 p1 : Nat} {x0 y0 x1 y1 : Value} (h : W.cell? ⟨p0, 0, none⟩ = some x0 ∧ W.cell? ⟨p0, 1, none⟩ = some y0 ∧ W.cell? ⟨p1, 0, none⟩ = some x1 ∧ W.cell? ⟨p1, 1, none⟩ = some y1 ∧ Hid (Below w.heap.size w W))
    (hb : Below W.heap.size W W') : W'.cell? ⟨p0, 0, none⟩ = some x0 ∧ W'.cell? ⟨p0, 1, none⟩ = some y0 ∧ W'.cell? ⟨p1, 0, none⟩ = some x1 ∧ W'.cell? ⟨p1, 1, none⟩ = some y1 ∧ Hid (Below w.heap.size w W') := by
  obtain ⟨h0, h1, h2, h3, hw⟩ := h
  exact ⟨cell_keep h0 hb, cell_keep h1 hb, cell_keep h2 hb, cell_keep h3 hb, Lib.hid (hw.out.trans (hb.mono hw.out.size))⟩
theorem last2 {w W : World} {P0 P1 P2 P3 : Prop} (h : P0 ∧ P1 ∧ P2 ∧ P3 ∧ Hid (Below w.heap.size w W)) : Below w.heap.size w W := h.2.2.2.2.out
theorem more2 {w W : World} {p0 p1 : Nat} {x0 y0 x1 y1 : Value} (x y : Value) (h : W.cell? ⟨p0, 0, none⟩ = some x0 ∧ W.cell? ⟨p0, 1, none⟩ = some y0 ∧ W.cell? ⟨p1, 0, none⟩ = some x1 ∧ W.cell? ⟨p1, 1, none⟩ = some y1 ∧ Hid (Below w.heap.size w W)) :
    (W.alloc (.cells #[x, y] 24)).cell? ⟨p0, 0, none⟩ = some x0 ∧ (W.alloc (.cells #[x, y] 24)).cell? ⟨p0, 1, none⟩ = some y0 ∧ (W.alloc (.cells #[x, y] 24)).cell? ⟨p1, 0, none⟩ = some x1 ∧ (W.alloc (.cells #[x, y] 24)).cell? ⟨p1, 1, none⟩ = some y1 ∧ (W.alloc (.cells #[x, y] 24)).cell? ⟨W.heap.size, 0, none⟩ = some x ∧ (W.alloc (.cells #[x, y] 24)).cell? ⟨W.heap.size, 1, none⟩ = some y ∧ Hid (Below w.heap.size w (W.alloc (.cells #[x, y] 24))) := by
  have hb := below1 W (.cells #[x, y] 24)
  obtain ⟨h0, h1, h2, h3, hw⟩ := keep2 h hb
  exact ⟨h0, h1, h2, h3, (Box2.new W x y).c0, (Box2.new W x y).c1, hw⟩
theorem keep3 {w W W' : World} {p0 p1 p2 : Nat} {x0 y0 x1 y1 x2 y2 : Value} (h : W.cell? ⟨p0, 0, none⟩ = some x0 ∧ W.cell? ⟨p0, 1, none⟩ = some y0 ∧ W.cell? ⟨p1, 0, none⟩ = some x1 ∧ W.cell? ⟨p1, 1, none⟩ = some y1 ∧ W.cell? ⟨p2, 0, none⟩ = some x2 ∧ W.cell? ⟨p2, 1, none⟩ = some y2 ∧ Hid (Below w.heap.size w W))
    (hb : Below W.heap.size W W') : W'.cell? ⟨p0, 0, none⟩ = some x0 ∧ W'.cell? ⟨p0, 1, none⟩ = some y0 ∧ W'.cell? ⟨p1, 0, none⟩ = some x1 ∧ W'.cell? ⟨p1, 1, none⟩ = some y1 ∧ W'.cell? ⟨p2, 0, none⟩ = some x2 ∧ W'.cell? ⟨p2, 1, none⟩ = some y2 ∧ Hid (Below w.heap.size w W') := by
  obtain ⟨h0, h1, h2, h3, h4, h5, hw⟩ := h
  exact ⟨cell_keep h0 hb, cell_keep h1 hb, cell_keep h2 hb, cell_keep h3 hb, cell_keep h4 hb, cell_keep h5 hb, Lib.hid (hw.out.trans (hb.mono hw.out.size))⟩
theorem last3 {w W : World} {P0 P1 P2 P3 P4 P5 : Prop} (h : P0 ∧ P1 ∧ P2 ∧ P3 ∧ P4 ∧ P5 ∧ Hid (Below w.heap.size w W)) : Below w.heap.size w W := h.2.2.2.2.2.2.out
theorem more3 {w W : World} {p0 p1 p2 : Nat} {x0 y0 x1 y1 x2 y2 : Value} (x y : Value) (h : W.cell? ⟨p0, 0, none⟩ = some x0 ∧ W.cell? ⟨p0, 1, none⟩ = some y0 ∧ W.cell? ⟨p1, 0, none⟩ = some x1 ∧ W.cell? ⟨p1, 1, none⟩ = some y1 ∧ W.cell? ⟨p2, 0, none⟩ = some x2 ∧ W.cell? ⟨p2, 1, none⟩ = some y2 ∧ Hid (Below w.heap.size w W)) :
    (W.alloc (.cells #[x, y] 24)).cell? ⟨p0, 0, none⟩ = some x0 ∧ (W.alloc (.cells #[x, y] 24)).cell? ⟨p0, 1, none⟩ = some y0 ∧ (W.alloc (.cells #[x, y] 24)).cell? ⟨p1, 0, none⟩ = some x1 ∧ (W.alloc (.cells #[x, y] 24)).cell? ⟨p1, 1, none⟩ = some y1 ∧ (W.alloc (.cells #[x, y] 24)).cell? ⟨p2, 0, none⟩ = some x2 ∧ (W.alloc (.cells #[x, y] 24)).cell? ⟨p2, 1, none⟩ = some y2 ∧ (W.alloc (.cells #[x, y] 24)).cell? ⟨W.heap.size, 0, none⟩ = some x ∧ (W.alloc (.cells #[x, y] 24)).cell? ⟨W.heap.size, 1, none⟩ = some y ∧ Hid (Below w.heap.size w (W.alloc (.cells #[x, y] 24))) := by
  have hb := below1 W (.cells #[x, y] 24)
  obtain ⟨h0, h1, h2, h3, h4, h5, hw⟩ := keep3 h hb
  exact ⟨h0, h1, h2, h3, h4, h5, (Box2.new W x y).c0, (Box2.new W x y).c1, hw⟩
theorem keep4 {w W W' : World} {p0 p1 p2 p3 : Nat} {x0 y0 x1 y1 x2 y2 x3 y3 : Value} (h : W.cell? ⟨p0, 0, none⟩ = some x0 ∧ W.cell? ⟨p0, 1, none⟩ = some y0 ∧ W.cell? ⟨p1, 0, none⟩ = some x1 ∧ W.cell? ⟨p1, 1, none⟩ = some y1 ∧ W.cell? ⟨p2, 0, none⟩ = some x2 ∧ W.cell? ⟨p2, 1, none⟩ = some y2 ∧ W.cell? ⟨p3, 0, none⟩ = some x3 ∧ W.cell? ⟨p3, 1, none⟩ = some y3 ∧ Hid (Below w.heap.size w W))
    (hb : Below W.heap.size W W') : W'.cell? ⟨p0, 0, none⟩ = some x0 ∧ W'.cell? ⟨p0, 1, none⟩ = some y0 ∧ W'.cell? ⟨p1, 0, none⟩ = some x1 ∧ W'.cell? ⟨p1, 1, none⟩ = some y1 ∧ W'.cell? ⟨p2, 0, none⟩ = some x2 ∧ W'.cell? ⟨p2, 1, none⟩ = some y2 ∧ W'.cell? ⟨p3, 0, none⟩ = some x3 ∧ W'.cell? ⟨p3, 1, none⟩ = some y3 ∧ Hid (Below w.heap.size w W') := by
  obtain ⟨h0, h1, h2, h3, h4, h5, h6, h7, hw⟩ := h
  exact ⟨cell_keep h0 hb, cell_keep h1 hb, cell_keep h2 hb, cell_keep h3 hb, cell_keep h4 hb, cell_keep h5 hb, cell_keep h6 hb, cell_keep h7 hb, Lib.hid (hw.out.trans (hb.mono hw.out.size))⟩
theorem last4 {w W : World} {P0 P1 P2 P3 P4 P5 P6 P7 : Prop} (h : P0 ∧ P1 ∧ P2 ∧ P3 ∧ P4 ∧ P5 ∧ P6 ∧ P7 ∧ Hid (Below w.heap.size w W)) : Below w.heap.size w W := h.2.2.2.2.2.2.2.2.out
theorem more4 {w W : World} {p0 p1 p2 p3 : Nat} {x0 y0 x1 y1 x2 y2 x3 y3 : Value} (x y : Value) (h : W.cell? ⟨p0, 0, none⟩ = some x0 ∧ W.cell? ⟨p0, 1, none⟩ = some y0 ∧ W.cell? ⟨p1, 0, none⟩ = some x1 ∧ W.cell? ⟨p1, 1, none⟩ = some y1 ∧ W.cell? ⟨p2, 0, none⟩ = some x2 ∧ W.cell? ⟨p2, 1, none⟩ = some y2 ∧ W.cell? ⟨p3, 0, none⟩ = some x3 ∧ W.cell? ⟨p3, 1, none⟩ = some y3 ∧ Hid (Below w.heap.size w W)) :
    (W.alloc (.cells #[x, y] 24)).cell? ⟨p0, 0, none⟩ = some x0 ∧ (W.alloc (.cells #[x, y] 24)).cell? ⟨p0, 1, none⟩ = some y0 ∧ (W.alloc (.cells #[x, y] 24)).cell? ⟨p1, 0, none⟩ = some x1 ∧ (W.alloc (.cells #[x, y] 24)).cell? ⟨p1, 1, none⟩ = some y1 ∧ (W.alloc (.cells #[x, y] 24)).cell? ⟨p2, 0, none⟩ = some x2 ∧ (W.alloc (.cells #[x, y] 24)).cell? ⟨p2, 1, none⟩ = some y2 ∧ (W.alloc (.cells #[x, y] 24)).cell? ⟨p3, 0, none⟩ = some x3 ∧ (W.alloc (.cells #[x, y] 24)).cell? ⟨p3, 1, none⟩ = some y3 ∧ (W.alloc (.cells #[x, y] 24)).cell? ⟨W.heap.size, 0, none⟩ = some x ∧ (W.alloc (.cells #[x, y] 24)).cell? ⟨W.heap.size, 1, none⟩ = some y ∧ Hid (Below w.heap.size w (W.alloc (.cells #[x, y] 24))) := by
  have hb := below1 W (.cells #[x, y] 24)
  obtain ⟨h0, h1, h2, h3, h4, h5, h6, h7, hw⟩ := keep4 h hb
  exact ⟨h0, h1, h2, h3, h4, h5, h6, h7, (Box2.new W x y).c0, (Box2.new W x y).c1, hw⟩
theorem keep5 {w W W' : World} {p0 p1 p2 p3 p4 : Nat} {x0 y0 x1 y1 x2 y2 x3 y3 x4 y4 : Value} (h : W.cell? ⟨p0, 0, none⟩ = some x0 ∧ W.cell? ⟨p0, 1, none⟩ = some y0 ∧ W.cell? ⟨p1, 0, none⟩ = some x1 ∧ W.cell? ⟨p1, 1, none⟩ = some y1 ∧ W.cell? ⟨p2, 0, none⟩ = some x2 ∧ W.cell? ⟨p2, 1, none⟩ = some y2 ∧ W.cell? ⟨p3, 0, none⟩ = some x3 ∧ W.cell? ⟨p3, 1, none⟩ = some y3 ∧ W.cell? ⟨p4, 0, none⟩ = some x4 ∧ W.cell? ⟨p4, 1, none⟩ = some y4 ∧ Hid (Below w.heap.size w W))
    (hb : Below W.heap.size W W') : W'.cell? ⟨p0, 0, none⟩ = some x0 ∧ W'.cell? ⟨p0, 1, none⟩ = some y0 ∧ W'.cell? ⟨p1, 0, none⟩ = some x1 ∧ W'.cell? ⟨p1, 1, none⟩ = some y1 ∧ W'.cell? ⟨p2, 0, none⟩ = some x2 ∧ W'.cell? ⟨p2, 1, none⟩ = some y2 ∧ W'.cell? ⟨p3, 0, none⟩ = some x3 ∧ W'.cell? ⟨p3, 1, none⟩ = some y3 ∧ W'.cell? ⟨p4, 0, none⟩ = some x4 ∧ W'.cell? ⟨p4, 1, none⟩ = some y4 ∧ Hid (Below w.heap.size w W') := by
  obtain ⟨h0, h1, h2, h3, h4, h5, h6, h7, h8, h9, hw⟩ := h
  exact ⟨cell_keep h0 hb, cell_keep h1 hb, cell_keep h2 hb, cell_keep h3 hb, cell_keep h4 hb, cell_keep h5 hb, cell_keep h6 hb, cell_keep h7 hb, cell_keep h8 hb, cell_keep h9 hb, Lib.hid (hw.out.trans (hb.mono hw.out.size))⟩
theorem last5 {w W : World} {P0 P1 P2 P3 P4 P5 P6 P7 P8 P9 : Prop} (h : P0 ∧ P1 ∧ P2 ∧ P3 ∧ P4 ∧ P5 ∧ P6 ∧ P7 ∧ P8 ∧ P9 ∧ Hid (Below w.heap.size w W)) : Below w.heap.size w W := h.2.2.2.2.2.2.2.2.2.2.out
theorem more5 {w W : World} {p0 p1 p2 p3 p4 : Nat} {x0 y0 x1 y1 x2 y2 x3 y3 x4 y4 : Value} (x y : Value) (h : W.cell? ⟨p0, 0, none⟩ = some x0 ∧ W.cell? ⟨p0, 1, none⟩ = some y0 ∧ W.cell? ⟨p1, 0, none⟩ = some x1 ∧ W.cell? ⟨p1, 1, none⟩ = some y1 ∧ W.cell? ⟨p2, 0, none⟩ = some x2 ∧ W.cell? ⟨p2, 1, none⟩ = some y2 ∧ W.cell? ⟨p3, 0, none⟩ = some x3 ∧ W.cell? ⟨p3, 1, none⟩ = some y3 ∧ W.cell? ⟨p4, 0, none⟩ = some x4 ∧ W.cell? ⟨p4, 1, none⟩ = some y4 ∧ Hid (Below w.heap.size w W)) :
    (W.alloc (.cells #[x, y] 24)).cell? ⟨p0, 0, none⟩ = some x0 ∧ (W.alloc (.cells #[x, y] 24)).cell? ⟨p0, 1, none⟩ = some y0 ∧ (W.alloc (.cells #[x, y] 24)).cell? ⟨p1, 0, none⟩ = some x1 ∧ (W.alloc (.cells #[x, y] 24)).cell? ⟨p1, 1, none⟩ = some y1 ∧ (W.alloc (.cells #[x, y] 24)).cell? ⟨p2, 0, none⟩ = some x2 ∧ (W.alloc (.cells #[x, y] 24)).cell? ⟨p2, 1, none⟩ = some y2 ∧ (W.alloc (.cells #[x, y] 24)).cell? ⟨p3, 0, none⟩ = some x3 ∧ (W.alloc (.cells #[x, y] 24)).cell? ⟨p3, 1, none⟩ = some y3 ∧ (W.alloc (.cells #[x, y] 24)).cell? ⟨p4, 0, none⟩ = some x4 ∧ (W.alloc (.cells #[x, y] 24)).cell? ⟨p4, 1, none⟩ = some y4 ∧ (W.alloc (.cells #[x, y] 24)).cell? ⟨W.heap.size, 0, none⟩ = some x ∧ (W.alloc (.cells #[x, y] 24)).cell? ⟨W.heap.size, 1, none⟩ = some y ∧ Hid (Below w.heap.size w (W.alloc (.cells #[x, y] 24))) := by
  have hb := below1 W (.cells #[x, y] 24)
  obtain ⟨h0, h1, h2, h3, h4, h5, h6, h7, h8, h9, hw⟩ := keep5 h hb
  exact ⟨h0, h1, h2, h3, h4, h5, h6, h7, h8, h9, (Box2.new W x y).c0, (Box2.new W x y).c1, hw⟩
theorem more0 {w W : World} (x y : Value) (h : Hid (Below w.heap.size w W)) : (W.alloc (.cells #[x, y] 24)).cell? ⟨W.heap.size, 0, none⟩ = some x ∧ (W.alloc (.cells #[x, y] 24)).cell? ⟨W.heap.size, 1, none⟩ = some y ∧ Hid (Below w.heap.size w (W.alloc (.cells #[x, y] 24))) :=
  ⟨(Box2.new W x y).c0, (Box2.new W x y).c1, Lib.hid (h.out.alloc h.out.size _)⟩
theorem cellsLabel : Tryz.prog.cellsOf 24 = 2 := by kernel_rfl
end Go.Proofs.YtegjlgdbipfpaaaGreatDoor
