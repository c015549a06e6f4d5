/-
  Plain laws on sets and their texts: a set's text is read as the set.
-/
import Derived.Test.YtegjlgdbipfpaaaGreatDoorRead
import Derived.Test.YtegjlgdbipfpaaaGreatDoorPool
namespace Go.Proofs.YtegjlgdbipfpaaaGreatDoor
open Go Go.RowKit

/-- The set of some categories. -/
def orAll (l : List Nat) : BitVec 64 := l.foldl (fun s c => s ||| (1#64 <<< c)) 0#64
theorem orAll_snoc (l : List Nat) (c : Nat) : orAll (l ++ [c]) = orAll l ||| (1#64 <<< c) := by simp [orAll]
theorem orAll_bit (l : List Nat) (h : ∀ c ∈ l, c < 64) (j : Nat) : (orAll l).getLsbD j = decide (j ∈ l) := by
  revert h
  refine snoc_ind (Q := fun l => (∀ c ∈ l, c < 64) → (orAll l).getLsbD j = decide (j ∈ l)) ?_ ?_ l
  · intro _; simp [orAll]
  · intro l c ih h
    rw [orAll_snoc, BitVec.getLsbD_or, ih (fun x hx => h x (by simp [hx])), one_shl_bit c j (h c (by simp))]
    rw [Bool.eq_iff_iff]; simp
theorem orAll_cats (s : BitVec 64) : orAll (cats s) = s := by
  apply BitVec.eq_of_getLsbD_eq
  intro j hj
  rw [orAll_bit _ (fun c hc => cats_lt hc), Bool.eq_iff_iff]
  simp [mem_cats]
theorem cats_orAll_mem (l : List Nat) (h : ∀ c ∈ l, c < 64) (j : Nat) : j ∈ cats (orAll l) ↔ j ∈ l := by
  rw [mem_cats, orAll_bit l h]; simp

/-- A category's numeral, written out. -/
def dec2 (n : Nat) : List UInt8 := if n < 10 then [UInt8.ofNat (48 + n)] else [UInt8.ofNat (48 + n / 10), UInt8.ofNat (48 + n % 10)]
def text2 (f t : Nat) : List UInt8 := if f = t then dec2 f else dec2 f ++ [45] ++ dec2 t
theorem spanText_eq (f t : Nat) (hf : f < 100) (ht : t < 100) : spanText (f, t) = text2 f t := by
  unfold spanText text2 dec2
  rw [dec_eq f hf, dec_eq t ht]

theorem stretch_all : ∀ f, f < 64 → ∀ t, t < 64 → f ≤ t → stretchRes (text2 f t) = ((f : Int), (t : Int), true) := by decide +kernel
theorem comma_all : ∀ f, f < 64 → ∀ t, t < 64 → (44 : UInt8) ∉ text2 f t := by decide +kernel
theorem span_step : ∀ f, f < 64 → ∀ t, t < 63 → f ≤ t → spanBits f (t + 1) = spanBits f t ||| (1#64 <<< (t + 1)) := by decide +kernel
theorem span_one : ∀ f, f < 64 → spanBits f f = 1#64 <<< f := by decide +kernel

theorem stepSpan_le {acc : List (Nat × Nat)} {c : Nat} (h : ∀ p ∈ acc, p.1 ≤ p.2) : ∀ p ∈ stepSpan acc c, p.1 ≤ p.2 := by
  rcases List.eq_nil_or_concat acc with rfl | ⟨i, ⟨f, t⟩, rfl⟩
  · intro p hp; rw [stepSpan_nil] at hp; simp at hp; subst hp; simp
  · rw [List.concat_eq_append] at h ⊢
    intro p hp
    by_cases e : t + 1 = c
    · rw [stepSpan_next _ _ _ _ e] at hp
      simp only [List.mem_append, List.mem_singleton] at hp
      rcases hp with hp | rfl
      · exact h p (by simp [hp])
      · have := h (f, t) (by simp); simp only at this ⊢; omega
    · rw [stepSpan_new _ _ _ _ e] at hp
      rw [List.mem_append] at hp
      rcases hp with hp | hp
      · exact h p hp
      · simp only [List.mem_singleton] at hp; subst hp; simp
theorem spansOf_le (l : List Nat) : ∀ p ∈ spansOf l, p.1 ≤ p.2 := by
  refine snoc_ind (Q := fun l => ∀ p ∈ spansOf l, p.1 ≤ p.2) ?_ ?_ l
  · intro p h; simp [spansOf] at h
  · intro l c ih; rw [spansOf_snoc]; exact stepSpan_le ih

/-- The set of some stretches. -/
def spansBits (ps : List (Nat × Nat)) : BitVec 64 := ps.foldl (fun s p => s ||| spanBits p.1 p.2) 0#64
theorem spansBits_snoc (ps : List (Nat × Nat)) (p : Nat × Nat) : spansBits (ps ++ [p]) = spansBits ps ||| spanBits p.1 p.2 := by simp [spansBits]
theorem spansBits_of (l : List Nat) (h : ∀ c ∈ l, c < 64) : spansBits (spansOf l) = orAll l := by
  revert h
  refine snoc_ind (Q := fun l => (∀ c ∈ l, c < 64) → spansBits (spansOf l) = orAll l) ?_ ?_ l
  · intro _; rfl
  · intro l c ih h
    have ih := ih (fun x hx => h x (by simp [hx]))
    have hc := h c (by simp)
    have hle := spansOf_le l
    rw [spansOf_snoc, orAll_snoc, ← ih]
    rcases List.eq_nil_or_concat (spansOf l) with h0 | ⟨i, ⟨f, t⟩, h0⟩
    · rw [h0, stepSpan_nil]
      simp [spansBits, span_one c hc]
    · rw [List.concat_eq_append] at h0
      rw [h0] at hle ⊢
      have hft := hle (f, t) (by simp)
      by_cases e : t + 1 = c
      · rw [stepSpan_next _ _ _ _ e, spansBits_snoc, spansBits_snoc, BitVec.or_assoc]
        subst e
        rw [span_step f (by simp only at hft; omega) t (by omega) hft]
      · rw [stepSpan_new _ _ _ _ e, spansBits_snoc, span_one c hc]

theorem readBits_texts (ps : List (Nat × Nat)) (h : ∀ p ∈ ps, p.1 < 64 ∧ p.2 < 64 ∧ p.1 ≤ p.2) : readBits (ps.map spanText) = spansBits ps := by
  revert h
  refine snoc_ind (Q := fun ps => (∀ p ∈ ps, p.1 < 64 ∧ p.2 < 64 ∧ p.1 ≤ p.2) → readBits (ps.map spanText) = spansBits ps) ?_ ?_ ps
  · intro _; rfl
  · intro ps p ih h
    obtain ⟨h1, h2, h3⟩ := h p (by simp)
    rw [List.map_append, List.map_singleton, readBits_snoc, spansBits_snoc, ih (fun q hq => h q (by simp [hq]))]
    obtain ⟨f, t⟩ := p
    simp only at h1 h2 h3
    rw [spanText_eq f t (by omega) (by omega), stretch_all f h1 t h2 h3]
    simp

theorem join_two (x y : List UInt8) (r : List (List UInt8)) : Lib.join (x :: y :: r) [44] = x ++ 44 :: Lib.join (y :: r) [44] := by
  rw [Lib.join_cons, Lib.join_cons]; simp [Lib.joinTail]
theorem parts_join : ∀ (ts : List (List UInt8)), ts ≠ [] → (∀ x ∈ ts, (44 : UInt8) ∉ x) → parts (Lib.join ts [44]) = ts
  | [], h, _ => absurd rfl h
  | [x], _, h => by rw [Lib.join_one]; exact parts_none x (h x (by simp))
  | x :: y :: r, _, h => by
    rw [join_two, parts_comma _ _ (h x (by simp)), parts_join (y :: r) (by simp) (fun z hz => h z (by simp only [List.mem_cons] at hz ⊢; exact .inr hz))]

theorem spans_all {s : BitVec 64} {p : Nat × Nat} (h : p ∈ spansOf (cats s)) : p.1 < 64 ∧ p.2 < 64 ∧ p.1 ≤ p.2 :=
  ⟨(spans_lt h).1, (spans_lt h).2, spansOf_le _ _ h⟩
theorem texts_ne {s : BitVec 64} (hs : s ≠ 0#64) : texts s ≠ [] := by
  unfold texts
  intro e
  exact spansOf_ne (fun e => hs (cats_eq_nil.1 e)) (List.map_eq_nil_iff.1 e)
theorem texts_comma (s : BitVec 64) : ∀ x ∈ texts s, (44 : UInt8) ∉ x := by
  intro x hx
  obtain ⟨⟨f, t⟩, hp, rfl⟩ := List.mem_map.1 hx
  obtain ⟨h1, h2, _⟩ := spans_all hp
  simp only at h1 h2
  rw [spanText_eq f t (by omega) (by omega)]
  exact comma_all f h1 t h2
theorem okAll_texts (s : BitVec 64) : okAll (texts s) = true := by
  unfold okAll
  rw [List.all_eq_true]
  intro x hx
  obtain ⟨⟨f, t⟩, hp, rfl⟩ := List.mem_map.1 hx
  obtain ⟨h1, h2, h3⟩ := spans_all hp
  simp only at h1 h2 h3
  rw [spanText_eq f t (by omega) (by omega), stretch_all f h1 t h2 h3]
/-- **A set's text is read as the set.** -/
theorem read_show {s : BitVec 64} (hs : s ≠ 0#64) : okAll (parts (showL s)) = true ∧ readBits (parts (showL s)) = s := by
  have hp : parts (showL s) = texts s := by rw [showL, if_neg hs]; exact parts_join _ (texts_ne hs) (texts_comma s)
  rw [hp]
  refine ⟨okAll_texts s, ?_⟩
  rw [texts, readBits_texts _ (fun p hp => spans_all hp), spansBits_of _ (fun c hc => cats_lt hc), orAll_cats]
theorem dec2_head : ∀ f, f < 64 → ∀ t, t < 64 → (text2 f t).head? ≠ some 110 := by decide +kernel
theorem show_not_none {s : BitVec 64} (hs : s ≠ 0#64) : showL s ≠ noneText := by
  intro e
  have h := read_show hs
  rw [e] at h
  have : okAll (parts noneText) = false := by decide +kernel
  rw [this] at h
  exact absurd h.1 (by simp)
theorem show_zero : showL 0#64 = noneText := rfl
/-- Unlike sets have unlike texts. -/
theorem show_inj {a b : BitVec 64} (h : showL a = showL b) : a = b := by
  by_cases ha : a = 0#64
  · by_cases hb : b = 0#64
    · rw [ha, hb]
    · rw [ha, show_zero] at h; exact absurd h.symm (show_not_none hb)
  · by_cases hb : b = 0#64
    · rw [hb, show_zero] at h; exact absurd h (show_not_none ha)
    · rw [← (read_show ha).2, ← (read_show hb).2, h]

/-- **set.Read**: the set that is shown so, and true; 0 and false, if none is. -/
theorem read_any (t : List UInt8) (ht : t.length ≤ 4294967280) (w : World) (hg : gTop ≤ w.heap.size) (hl : Laid w) :
    Calls Tryz.prog 28 #[Str t] w fun e w' => Below w.heap.size w w' ∧
      ((∃ s, showL s = t ∧ e = .returned (.tuple #[U s, .bool true])) ∨ ((∀ s, showL s ≠ t) ∧ e = .returned (.tuple #[U 0#64, .bool false]))) := by
  by_cases h : t = noneText
  · subst h
    exact (read_none w).mono fun e w' ⟨he, hb⟩ => ⟨hb, .inl ⟨0#64, rfl, he⟩⟩
  · refine (callsIn_wide.1 (read_in 3 (Nat.le_refl _) t ht h w hg hl)).mono fun e w' ⟨hb, hr⟩ => ⟨hb, ?_⟩
    rcases hr with ⟨_, h2, he⟩ | ⟨hn, he⟩
    · exact .inl ⟨_, h2, he⟩
    · refine .inr ⟨fun s hs => hn ?_, he⟩
      have hs0 : s ≠ 0#64 := by rintro rfl; exact h (hs ▸ show_zero ▸ rfl)
      have hr := read_show hs0
      rw [hs] at hr
      exact ⟨hr.1, by rw [hr.2, hs]⟩
end Go.Proofs.YtegjlgdbipfpaaaGreatDoor
