/-
  slices.AppendSeq and slices.Collect over set.each; set.List.
-/
import Derived.Test.YtegjlgdbipfpaaaGreatDoorEach
namespace Go.Proofs.YtegjlgdbipfpaaaGreatDoor
open Go Go.RowKit Go.Shelf
attribute [local go_sem] Oper.semAt_some wide_fn wide_depth

theorem info_int : (Tryz.prog.info? 3).map (fun i => (i.zero, i.size, i.bytes)) = some (some (.int .i64 0), 1, 8) := by kernel_rfl

/-- A slice of numbers of the call's own. -/
def ints (L : List Nat) : List Value := L.map fun (c : Nat) => Value.int .i64 (c : Int)

theorem ints_snoc (L : List Nat) (x : Nat) : ints (L ++ [x]) = ints L ++ [.int .i64 (x : Int)] := by simp [ints]

/-- 'x = append(x, ..)' by a box: what it keeps of an iterator's block. -/
theorem appended_keep {W w1 : World} {n0 b B Bx : Nat} {t e : TypeId} {size k m : Nat} {v v' : Value} {xs ys : List Value} {tmp : Obj}
    (hv : Boxed W Bx t v) (hte : t ≠ e) (hrow : W.ownsRow B e size v k xs) (hbB : b < B) (hnB : n0 ≤ B) (hBx : b ≠ Bx) (hnx : n0 ≤ Bx) (hbW : b < W.heap.size) (hnW : n0 ≤ W.heap.size)
    (hown' : w1.ownsRow B e size v' m ys) (hgrow : (W.alloc tmp).grownBy w1 v.ownBlock) :
    Boxed w1 Bx t v ∧ Boxed (w1.setCell ⟨Bx, 0, none⟩ v') Bx t v' ∧ (w1.setCell ⟨Bx, 0, none⟩ v').ownsRow B e size v' m ys ∧ KeepsOthers W (w1.setCell ⟨Bx, 0, none⟩ v') ∧ Keep n0 b W (w1.setCell ⟨Bx, 0, none⟩ v') := by
  have hv1 : Boxed w1 Bx t v := (hv.alloc tmp).kept hgrow (hv.not_row hte hrow)
  refine ⟨hv1, hv1.set v', hown'.kept (grownBy_setCell' w1 Bx v') (.inr (hv1.not_row hte hown').symm), ?_, ?_⟩
  · refine ((KeepsOthers.alloc W tmp).trans (KeepsOthers.of_grownBy hgrow fun j o ej hj => ?_)).trans (KeepsOthers.setCell _ _ _)
    rcases (hrow.alloc tmp).2 with ⟨rfl, _⟩ | ⟨g, cap, cur, rfl, _, hgb, _⟩
    · simp [Value.ownBlock] at ej
    · obtain rfl : g = j := by simpa [Value.ownBlock] using ej
      rw [hgb] at hj; cases hj; rfl
  · refine (((Keep.refl n0 b W).alloc (by omega) (by omega) tmp).grown hgrow (by simp; omega) (by simp; omega) fun j ej => ?_).setCell (p := ⟨Bx, 0, none⟩) (by simp; omega) (by simp; omega) v'
    rcases hrow.2 with ⟨rfl, _⟩ | ⟨g, cap, cur, rfl, hb, _, _⟩
    · simp [Value.ownBlock] at ej
    · obtain rfl : g = j := by simpa [Value.ownBlock] using ej
      omega

theorem row_lower {W : World} {base base' : Nat} {e : TypeId} {size k : Nat} {v : Value} {xs : List Value} (h : W.ownsRow base e size v k xs) (hb : base' ≤ base) : W.ownsRow base' e size v k xs := by
  refine ⟨h.1, ?_⟩
  rcases h.2 with h0 | ⟨g, cap, cur, hv, hge, hr⟩
  · exact .inl h0
  · exact .inr ⟨g, cap, cur, hv, Nat.le_trans hb hge, hr⟩

end Go.Proofs.YtegjlgdbipfpaaaGreatDoor
