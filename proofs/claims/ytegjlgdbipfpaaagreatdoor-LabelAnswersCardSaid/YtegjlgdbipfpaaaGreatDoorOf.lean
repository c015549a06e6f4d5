/-
  set.Of, over a slice that reads as a list of numbers.
-/
import Derived.Test.YtegjlgdbipfpaaaGreatDoorList
import Derived.LoopTactic
namespace Go.Proofs.YtegjlgdbipfpaaaGreatDoor
open Go Go.RowKit

/-- A slice value that reads as a list of numbers. -/
def IntsAt (w : World) (v : Value) (L : List Int) : Prop :=
  (L = [] ∧ ∃ a cap, v = .slice a 0 cap) ∨ ∃ b off cap, v = .slice (some ⟨b, off, none⟩) L.length cap ∧ ∀ j, j < L.length → w.cell? ⟨b, off + j, none⟩ = some (.int .i64 (L[j]?.getD 0))

theorem IntsAt.below {w w' : World} {v : Value} {L : List Int} (h : IntsAt w v L) (hb : Below w.heap.size w w') : IntsAt w' v L := by
  rcases h with h | ⟨b, off, cap, hv, hc⟩
  · exact .inl h
  · exact .inr ⟨b, off, cap, hv, fun j hj => cell_below hb (hc j hj)⟩

def toInts (L : List Nat) : List Int := L.map fun (c : Nat) => (c : Int)

/-- A row of the call's own reads as the numbers that it holds. -/
theorem intsAt_row {w : World} {base : Nat} {v : Value} {L : List Nat} (h : w.ownsRow base 3 1 v L.length (ints L)) : IntsAt w v (toInts L) := by
  have hcells := fun g hg => World.ownsRow.cells h (g := g) hg
  rcases h.2 with ⟨rfl, h0⟩ | ⟨g, cap, cur, rfl, _⟩
  · have : L = [] := List.length_eq_zero_iff.1 h0
    exact .inl ⟨by rw [this]; rfl, none, 0, rfl⟩
  · refine .inr ⟨g, 0, cap, by simp [toInts], fun j hj => ?_⟩
    have hj' : j < L.length := by simpa [toInts] using hj
    have := hcells g rfl j (.int .i64 ((L[j] : Nat) : Int)) (by simp [ints, hj'])
    have hadd : (⟨g, 0, none⟩ : Addr).add j = ⟨g, j, none⟩ := by unfold Addr.add; split <;> simp_all
    rw [hadd] at this
    simpa [toInts, hj'] using this

def ofBits (L : List Int) : BitVec 64 := L.foldl (fun s c => s ||| (1#64 <<< c.toNat)) 0#64
theorem ofBits_snoc (L : List Int) (c : Int) : ofBits (L ++ [c]) = ofBits L ||| (1#64 <<< c.toNat) := by simp [ofBits]
theorem take_snoc_int (L : List Int) (k : Nat) (h : k < L.length) : L.take (k + 1) = L.take k ++ [L[k]?.getD 0] := by
  rw [List.take_succ_eq_append_getElem h]; simp [h]

theorem shl_or_bv (s : BitVec 64) (c : Nat) : bits .or .u64 (s.toNat : Int) (IntKind.u64.wrap (2 ^ c)) = ((s ||| (1#64 <<< c)).toNat : Int) := by
  have e := shl_one_bv c
  rw [Int.one_mul] at e
  rw [e]; exact or_bv _ _

/-- What set.Of answers. -/
def ofRes (L : List Int) : Value := if L.all isCat then .tuple #[U (ofBits L), .bool true] else .tuple #[U 0#64, .bool false]

theorem first_bad (L : List Int) (h : ¬ L.all isCat = true) : ∃ m, m < L.length ∧ isCat (L[m]?.getD 0) = false ∧ ∀ j, j < m → isCat (L[j]?.getD 0) = true := by
  induction L with
  | nil => simp at h
  | cons c L ih =>
    by_cases hc : isCat c = true
    · obtain ⟨m, h1, h2, h3⟩ := ih (by simpa [hc] using h)
      refine ⟨m + 1, by simpa using h1, by simpa using h2, fun j hj => ?_⟩
      cases j with
      | zero => simpa using hc
      | succ j => simpa using h3 j (by omega)
    · exact ⟨0, by simp, by simpa using hc, fun j hj => by omega⟩

end Go.Proofs.YtegjlgdbipfpaaaGreatDoor
