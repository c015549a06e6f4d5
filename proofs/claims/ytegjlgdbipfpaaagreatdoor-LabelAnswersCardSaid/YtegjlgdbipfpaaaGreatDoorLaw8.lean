/-
  concordatlaw06.SetLists returns true: its walk.
-/
import Derived.Test.YtegjlgdbipfpaaaGreatDoorLaw5
namespace Go.Proofs.YtegjlgdbipfpaaaGreatDoor
open Go Go.RowKit

def intsI (L : List Int) : List Value := L.map fun x => Value.int .i64 x
theorem intsI_snoc (L : List Int) (x : Int) : intsI (L ++ [x]) = intsI L ++ [.int .i64 x] := by simp [intsI]
theorem intsAt_rowI {w : World} {base : Nat} {v : Value} {L : List Int} (h : w.ownsRow base 3 1 v L.length (intsI L)) : (v = .slice none 0 0 ∧ L = []) ∨ ∃ g cap, v = .slice (some ⟨g, 0, none⟩) L.length cap ∧ ∀ j, j < L.length → w.cell? ⟨g, 0 + j, none⟩ = some (.int .i64 (L[j]?.getD 0)) := by
  have hcells := fun g hg => World.ownsRow.cells h (g := g) hg
  rcases h.2 with ⟨rfl, h0⟩ | ⟨g, cap, cur, rfl, _⟩
  · exact .inl ⟨rfl, List.length_eq_zero_iff.1 h0⟩
  · refine .inr ⟨g, cap, rfl, fun j hj => ?_⟩
    have := hcells g rfl j (.int .i64 L[j]) (by simp [intsI, hj])
    have hadd : (⟨g, 0, none⟩ : Addr).add j = ⟨g, j, none⟩ := by unfold Addr.add; split <;> simp_all
    rw [hadd] at this
    simpa [hj] using this
theorem intsAt_rowI' {w : World} {base : Nat} {v : Value} {L : List Int} (h : w.ownsRow base 3 1 v L.length (intsI L)) : IntsAt w v L := by
  rcases intsAt_rowI h with ⟨h1, h2⟩ | ⟨g, cap, hv, hc⟩
  · exact .inl ⟨h2, none, 0, h1⟩
  · exact .inr ⟨g, 0, cap, hv, hc⟩

/-! ### Plain laws on the set of a list -/
theorem cat_toNat {c : Int} (h : isCat c = true) : 0 ≤ c ∧ c.toNat < 64 := by
  simp only [isCat, Bool.and_eq_true, decide_eq_true_eq] at h; omega
theorem ofBits_bit (L : List Int) (h : L.all isCat = true) (j : Nat) : (ofBits L).getLsbD j = decide ((j : Int) ∈ L) := by
  revert h
  refine snoc_ind (Q := fun L => L.all isCat = true → (ofBits L).getLsbD j = decide ((j : Int) ∈ L)) ?_ ?_ L
  · intro _; simp [ofBits]
  · intro L c ih h
    simp only [List.all_append, List.all_cons, List.all_nil, Bool.and_true, Bool.and_eq_true] at h
    obtain ⟨hc0, hc1⟩ := cat_toNat h.2
    rw [ofBits_snoc, BitVec.getLsbD_or, ih h.1, one_shl_bit _ j hc1, Bool.eq_iff_iff]
    simp only [Bool.or_eq_true, decide_eq_true_eq, List.mem_append, List.mem_singleton]
    constructor
    · rintro (h | h)
      · exact .inl h
      · exact .inr (by omega)
    · rintro (h | h)
      · exact .inl h
      · exact .inr (by omega)
theorem ofBits_reverse (L : List Int) (h : L.all isCat = true) : ofBits L.reverse = ofBits L := by
  apply BitVec.eq_of_getLsbD_eq
  intro j _
  rw [ofBits_bit _ (by rw [List.all_reverse]; exact h), ofBits_bit _ h, Bool.eq_iff_iff]
  simp
theorem ofRes_reverse (L : List Int) : ofRes L.reverse = ofRes L := by
  unfold ofRes
  rw [List.all_reverse]
  by_cases h : L.all isCat = true
  · rw [if_pos h, if_pos h, ofBits_reverse L h]
  · rw [if_neg h, if_neg h]
theorem has_ofBits (L : List Int) (h : L.all isCat = true) (c : Int) : hasB (ofBits L) c = decide (c ∈ L) := by
  unfold hasB
  by_cases h0 : 0 ≤ c
  · rw [ofBits_bit L h]
    simp [h0, Int.toNat_of_nonneg h0]
  · have : c ∉ L := fun hm => h0 (cat_toNat (List.all_eq_true.1 h c hm)).1
    simp [h0, this]
theorem filter_or (l : List Nat) (p q : Nat → Bool) : (l.filter (fun i => p i || q i)).length ≤ (l.filter p).length + (l.filter q).length := by
  induction l with
  | nil => simp
  | cons x l ih => cases hp : p x <;> cases hq : q x <;> simp [hp, hq] <;> omega
theorem one_filter : ∀ c, c < 64 → ((List.range 64).filter (fun i => decide (i = c))).length ≤ 1 := by decide +kernel
theorem cats_ofBits (L : List Int) (h : L.all isCat = true) : (cats (ofBits L)).length ≤ L.length := by
  revert h
  refine snoc_ind (Q := fun L => L.all isCat = true → (cats (ofBits L)).length ≤ L.length) ?_ ?_ L
  · intro _; decide
  · intro L c ih h
    simp only [List.all_append, List.all_cons, List.all_nil, Bool.and_true, Bool.and_eq_true] at h
    obtain ⟨hc0, hc1⟩ := cat_toNat h.2
    have h1 := ih h.1
    have h2 := one_filter c.toNat hc1
    have e : cats (ofBits (L ++ [c])) = (List.range 64).filter (fun i => (ofBits L).getLsbD i || decide (i = c.toNat)) := by
      unfold cats
      rw [ofBits_snoc]
      apply List.filter_congr
      intro i _
      rw [BitVec.getLsbD_or, one_shl_bit _ i hc1]
    have h3 := filter_or (List.range 64) (fun i => (ofBits L).getLsbD i) (fun i => decide (i = c.toNat))
    rw [e, List.length_append, List.length_singleton]
    unfold cats at h1
    omega
theorem drop_cons (L : List Int) (m : Nat) (h : m < L.length) : L.drop m = L[m]?.getD 0 :: L.drop (m + 1) := by
  rw [List.drop_eq_getElem_cons h]; simp [h]
theorem drop_rev (L : List Int) (m : Nat) (h : m < L.length) : (L.drop m).reverse = (L.drop (m + 1)).reverse ++ [L[m]?.getD 0] := by
  rw [drop_cons L m h, List.reverse_cons]

/-- What is left of the law behind the loop. -/
structure ListsEnd (L : List Int) (c : Int) (s : BitVec 64) (ok : Bool) : Prop where
  res : ofRes L = .tuple #[U s, .bool ok]
  has : ok = true → hasB s c = decide (c ∈ L)
  len : (cats s).length ≤ L.length
theorem lists_end (L : List Int) (c : Int) : ∃ s ok, ListsEnd L c s ok := by
  by_cases h : L.all isCat = true
  · exact ⟨ofBits L, true, by rw [ofRes, if_pos h], fun _ => has_ofBits L h c, cats_ofBits L h⟩
  · exact ⟨0#64, false, by rw [ofRes, if_neg h], fun e => (by cases e), by rw [cats_zero]; simp⟩

end Go.Proofs.YtegjlgdbipfpaaaGreatDoor
