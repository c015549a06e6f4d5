/-
  concordatref00.CopyInts.
-/
import Derived.Test.YtegjlgdbipfpaaaDoorRefJ
namespace Go.Proofs.YtegjlgdbipfpaaaDoor
open Go Go.RowKit

set_option maxRecDepth 100000 in
theorem copy_at (b off cap : Nat) (L : List Int) (w : World) (hc : ∀ j, j < L.length → w.cell? ⟨b, off + j, none⟩ = some (.int .i64 (L[j]?.getD 0)))
    (hm : L.length ≤ 200) :
    Calls Tryd.prog 16 #[.slice (some ⟨b, off, none⟩) L.length cap] w fun e w' => ∃ v, e = .returned v ∧ IntsAt w' v L ∧ Below w.heap.size w w' := by
  obtain ⟨i0, hi, hz0, hz1, hz2⟩ := info_parts info_int
  have hown : (w.alloc (.cells #[] 3)).ownsRow w.heap.size 3 1 (.slice (some ⟨w.heap.size, 0, none⟩) 0 0) 0 [] := World.ownsRow_made _ _ _ (Nat.le_refl _) (by decide) rfl
  have hcell : ∀ j u, (intsI L)[j]? = some u → (w.alloc (.cells #[] 3)).cell? ((⟨b, off, none⟩ : Addr).add j) = some u := by
    intro j u hj
    rw [Addr.add_lit]
    unfold intsI at hj
    rw [List.getElem?_map] at hj
    have hjl : j < L.length := by
      cases h : L[j]? with
      | none => rw [h] at hj; cases hj
      | some x => exact (List.getElem?_eq_some_iff.1 h).1
    have h1 := hc j hjl
    have hb := World.block_lt_of_cell? w _ h1
    have h2 := (((Below.refl w.heap.size w).alloc (Nat.le_refl _) (.cells #[] 3)).cell (p := ⟨b, off + j, none⟩) hb).trans h1
    rw [h2]
    cases h : L[j]? with
    | none => rw [h] at hj; cases hj
    | some x => rw [h] at hj; simpa using hj
  have HC := Lib.hid hcell
  have hA1 : 0 + L.length ≤ maxLen := by unfold maxLen; omega
  have hA2 : (0 + L.length) * 8 ≤ 140737488355328 := by omega
  have hA3 : w.heap.size ≤ (w.alloc (.cells #[] 3)).heap.size := by simp
  have hone : ∀ u ∈ intsI L, u.oneCell' = true := by
    intro u hu
    obtain ⟨x, _, rfl⟩ := List.mem_map.1 hu
    rfl
  have HONE := Lib.hid hone
  have HOWN := Lib.hid hown
  clear hc hcell hone hown
  go_enter Tryd.func16, Tryd.ntmps16
  go_wp2_with (at_builtin; refine wpList_append_own _ rfl _ _ 22 rfl w.heap.size 3 i0 (.int .i64 0) 1 8 Tryd.underlying22 hi hz0 hz1 hz2 rfl (by decide) _ 0 [] rfl HOWN.out ⟨b, off, none⟩ L.length cap (intsI L) rfl (by simp [intsI]) HC.out HONE.out hA1 hA2 hA3 ?_; intro v' w2 hown' hgrow _)
  rw [List.nil_append, Nat.zero_add] at hown'
  have hat := Lib.hid (intsAt_rowI' hown')
  have hB := ((Below.refl w.heap.size w).alloc (Nat.le_refl _) (.cells #[] 3)).grown hgrow (by simp) (fun q ej => by cases ej; exact Nat.le_refl _)
  clear hown' hgrow
  go_wp2
  go_ret
  exact ⟨_, rfl, hat.out, hB⟩

theorem copy_nil (a : Option Addr) (cap : Nat) (w : World) :
    Calls Tryd.prog 16 #[.slice a 0 cap] w fun e w' => ∃ v, e = .returned v ∧ IntsAt w' v [] ∧ Below w.heap.size w w' := by
  rcases a with _ | a
  all_goals
    go_enter Tryd.func16, Tryd.ntmps16
    go_wp2
    go_ret
    exact ⟨_, rfl, .inl ⟨rfl, _, _, rfl⟩, (Below.refl _ _).alloc (Nat.le_refl _) _⟩
theorem copy_any (v : Value) (L : List Int) (w : World) (hv : IntsAt w v L) (hm : L.length ≤ 200) :
    Calls Tryd.prog 16 #[v] w fun e w' => ∃ v', e = .returned v' ∧ IntsAt w' v' L ∧ Below w.heap.size w w' := by
  rcases hv with ⟨rfl, a, cap, rfl⟩ | ⟨b, off, cap, rfl, hc⟩
  · exact copy_nil a cap w
  · exact copy_at b off cap L w hc hm
end Go.Proofs.YtegjlgdbipfpaaaDoor
