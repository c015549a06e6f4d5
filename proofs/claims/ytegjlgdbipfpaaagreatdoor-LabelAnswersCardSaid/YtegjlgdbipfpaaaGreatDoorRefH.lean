/-
  Plain laws on the reference's way of showing and of reading a set; no program in sight.
-/
import Derived.Test.YtegjlgdbipfpaaaGreatDoorRefG
import Derived.Test.YtegjlgdbipfpaaaGreatDoorAliveA
namespace Go.Proofs.YtegjlgdbipfpaaaGreatDoor
open Go Go.RowKit

/-- The k-th category of a list. -/
def nth (L : List Nat) (k : Nat) : Nat := L[k]?.getD 0
theorem take_nat (L : List Nat) (k : Nat) (h : k < L.length) : L.take (k + 1) = L.take k ++ [nth L k] := by
  rw [List.take_add_one]; simp [nth, h]

/-- The first i categories end a stretch. -/
def Broke (L : List Nat) (i : Nat) : Prop := spansOf (L.take i) = [] ∨ ∃ A f t, spansOf (L.take i) = A ++ [(f, t)] ∧ (i < L.length → t + 1 ≠ nth L i)
theorem broke_zero (L : List Nat) : Broke L 0 := .inl rfl

theorem span_run (L : List Nat) (i : Nat) (hb : Broke L i) : ∀ k, i ≤ k → k < L.length → (∀ j, i ≤ j → j < k → nth L (j + 1) = nth L j + 1) →
    spansOf (L.take (k + 1)) = spansOf (L.take i) ++ [(nth L i, nth L k)] := by
  intro k
  induction k with
  | zero =>
    intro hi hk _
    obtain rfl : i = 0 := by omega
    rw [take_nat L 0 hk, spansOf_snoc]
    rfl
  | succ k ih =>
    intro hi hk hr
    by_cases e : i = k + 1
    · subst e
      rw [take_nat L _ hk, spansOf_snoc]
      rcases hb with h | ⟨A, f, t, h, ht⟩
      · rw [h, stepSpan_nil]; rfl
      · rw [h, stepSpan_new _ _ _ _ (ht hk)]
    · have h := ih (by omega) (by omega) (fun j h1 h2 => hr j h1 (by omega))
      rw [take_nat L _ hk, spansOf_snoc, h, stepSpan_next _ _ _ _ (hr k (by omega) (by omega)).symm]
theorem broke_next (L : List Nat) (i k : Nat) (hb : Broke L i) (hi : i ≤ k) (hk : k < L.length) (hr : ∀ j, i ≤ j → j < k → nth L (j + 1) = nth L j + 1)
    (hs : k + 1 < L.length → nth L (k + 1) ≠ nth L k + 1) : Broke L (k + 1) :=
  .inr ⟨_, _, _, span_run L i hb k hi hk hr, fun h => fun e => hs h e.symm⟩

/-- Stretches as text. -/
def joinT (ps : List (Nat × Nat)) : List UInt8 := Lib.join (ps.map spanText) [44]
theorem join_snoc : ∀ (A : List (List UInt8)) (x : List UInt8), A ≠ [] → Lib.join (A ++ [x]) [44] = Lib.join A [44] ++ [44] ++ x
  | [], _, h => absurd rfl h
  | [y], x, _ => by rw [Lib.join_one]; show Lib.join (y :: x :: []) [44] = _; rw [join_two, Lib.join_one]; simp
  | y :: z :: r, x, _ => by
    have ih := join_snoc (z :: r) x (by simp)
    show Lib.join (y :: z :: (r ++ [x])) [44] = _
    rw [join_two, join_two]
    rw [List.cons_append] at ih
    rw [ih]
    simp
theorem joinT_nil : joinT [] = [] := by unfold joinT; rw [List.map_nil, Lib.join_nil]
theorem joinT_one (p : Nat × Nat) : joinT [p] = spanText p := by unfold joinT; rw [List.map_singleton, Lib.join_one]
theorem joinT_snoc (A : List (Nat × Nat)) (p : Nat × Nat) (h : A ≠ []) : joinT (A ++ [p]) = joinT A ++ [44] ++ spanText p := by
  unfold joinT
  rw [List.map_append, List.map_singleton, join_snoc _ _ (by simpa using h)]

/-- The categories of a stretch. -/
def runBits (f t : Nat) : BitVec 64 := orAll (List.range' f (t + 1 - f))
theorem runBits_span (f t : Nat) (hf : f ≤ t) (ht : t < 64) : runBits f t = spanBits f t := by
  unfold runBits
  obtain ⟨d, rfl⟩ : ∃ d, t = f + d := ⟨t - f, by omega⟩
  rw [show f + d + 1 - f = d + 1 by omega]
  induction d with
  | zero => rw [List.range'_one]; simp [orAll, span_one f (by omega)]
  | succ d ih =>
    rw [List.range'_concat, orAll_snoc, ih (by omega) (by omega), Nat.one_mul, show f + (d + 1) = (f + d) + 1 by omega, span_step f (by omega) (f + d) (by omega) (by omega)]

/-- A round of the reader: the set, the number, the stretch's begin. -/
def stepR (st : BitVec 64 × Int × Int) (c : UInt8) : Option (BitVec 64 × Int × Int) :=
  if 48 ≤ c.toNat ∧ c.toNat ≤ 57 then
    (if max st.2.1 0 * 10 + ((c.toNat : Int) - 48) > 63 then none else some (st.1, max st.2.1 0 * 10 + ((c.toNat : Int) - 48), st.2.2))
  else if c.toNat = 45 ∧ 0 ≤ st.2.1 ∧ st.2.2 < 0 then some (st.1, -1, st.2.1)
  else if c.toNat = 44 ∧ 0 ≤ st.2.1 then some (st.1 ||| runBits (if st.2.2 < 0 then st.2.1 else st.2.2).toNat st.2.1.toNat, -1, -1)
  else none
def runR : BitVec 64 × Int × Int → List UInt8 → Option (BitVec 64 × Int × Int)
  | st, [] => some st
  | st, c :: l => (stepR st c).bind fun st' => runR st' l
theorem runR_append : ∀ (a b : List UInt8) (st : BitVec 64 × Int × Int), runR st (a ++ b) = (runR st a).bind fun st' => runR st' b
  | [], _, _ => rfl
  | c :: a, b, st => by
    simp only [List.cons_append, runR]
    cases stepR st c with
    | none => rfl
    | some st' => simp only [Option.bind_some]; exact runR_append a b st'
theorem runR_snoc (a : List UInt8) (c : UInt8) (st st' : BitVec 64 × Int × Int) (h : runR st a = some st') : runR st (a ++ [c]) = stepR st' c := by
  rw [runR_append, h]
  simp only [Option.bind_some, runR]
  cases stepR st' c <;> rfl

theorem digit_step (x : BitVec 64) (n fr : Int) (d : Nat) (hd : d < 10) (hn : max n 0 * 10 + (d : Int) ≤ 63) :
    stepR (x, n, fr) (UInt8.ofNat (48 + d)) = some (x, max n 0 * 10 + (d : Int), fr) := by
  have e : (UInt8.ofNat (48 + d)).toNat = 48 + d := by rw [UInt8.toNat_ofNat']; omega
  have e2 : (((48 + d : Nat) : Int) - 48) = (d : Int) := by omega
  unfold stepR
  rw [e, e2]
  rw [if_pos (by omega), if_neg (by show ¬ (max n 0 * 10 + (d : Int) > 63); omega)]
theorem runR_dec (x : BitVec 64) (fr : Int) (n : Nat) (hn : n < 64) : runR (x, -1, fr) (dec2 n) = some (x, (n : Int), fr) := by
  unfold dec2
  split
  · rename_i h
    simp only [runR]
    rw [digit_step x (-1) fr n h (by omega)]
    simp only [Option.bind_some, Option.some.injEq, Prod.mk.injEq, true_and, and_true]
    omega
  · rename_i h
    simp only [runR]
    rw [digit_step x (-1) fr (n / 10) (by omega) (by omega)]
    simp only [Option.bind_some]
    rw [digit_step x _ fr (n % 10) (by omega) (by omega)]
    simp only [Option.bind_some, Option.some.injEq, Prod.mk.injEq, true_and, and_true]
    omega
theorem runR_text (x : BitVec 64) (f t : Nat) (hf : f ≤ t) (ht : t < 64) : runR (x, -1, -1) (text2 f t ++ [44]) = some (x ||| spanBits f t, -1, -1) := by
  have c44 : ∀ (y : BitVec 64) (a b : Int), 0 ≤ a → stepR (y, a, b) 44 = some (y ||| runBits (if b < 0 then a else b).toNat a.toNat, -1, -1) := by
    intro y a b ha
    unfold stepR
    rw [if_neg (by decide), if_neg (fun h => absurd h.1 (by decide)), if_pos ⟨by decide, ha⟩]
  unfold text2
  split
  · rename_i h
    subst h
    rw [runR_append, runR_dec x (-1) f (by omega)]
    simp only [Option.bind_some, runR]
    rw [c44 _ _ _ (by omega)]
    simp [runBits_span f f (Nat.le_refl _) ht]
  · rename_i h
    rw [List.append_assoc, List.append_assoc, runR_append, runR_dec x (-1) f (by omega)]
    simp only [Option.bind_some, List.cons_append, List.nil_append, runR]
    have c45 : stepR (x, (f : Int), -1) 45 = some (x, -1, (f : Int)) := by
      unfold stepR
      rw [if_neg (by decide), if_pos ⟨by decide, by show (0 : Int) ≤ f; omega, by show (-1 : Int) < 0; decide⟩]
    rw [c45]
    simp only [Option.bind_some]
    rw [runR_append, runR_dec x f t ht]
    simp only [Option.bind_some, runR]
    rw [c44 _ _ _ (by omega), if_neg (by omega)]
    simp [runBits_span f t hf ht]
theorem spansBits_cons (p : Nat × Nat) (l : List (Nat × Nat)) : spansBits (p :: l) = spanBits p.1 p.2 ||| spansBits l := by
  have key : ∀ (l : List (Nat × Nat)) (y : BitVec 64), l.foldl (fun s p => s ||| spanBits p.1 p.2) y = y ||| l.foldl (fun s p => s ||| spanBits p.1 p.2) 0#64 := by
    intro l
    induction l with
    | nil => intro y; simp
    | cons a l ih =>
      intro y
      rw [List.foldl_cons, List.foldl_cons, ih, ih (0#64 ||| _), BitVec.zero_or, BitVec.or_assoc]
  unfold spansBits
  rw [List.foldl_cons, key, BitVec.zero_or]
theorem runR_spans : ∀ (ps : List (Nat × Nat)) (x : BitVec 64), ps ≠ [] → (∀ p ∈ ps, p.1 < 64 ∧ p.2 < 64 ∧ p.1 ≤ p.2) →
    runR (x, -1, -1) (joinT ps ++ [44]) = some (x ||| spansBits ps, -1, -1)
  | [], _, h, _ => absurd rfl h
  | [(f, t)], x, _, h => by
    obtain ⟨h1, h2, h3⟩ := h (f, t) (by simp)
    rw [joinT_one, spanText_eq f t (by simp only at h1; omega) (by simp only at h2; omega), runR_text x f t h3 h2]
    simp [spansBits]
  | (f, t) :: q :: r, x, _, h => by
    obtain ⟨h1, h2, h3⟩ := h (f, t) (by simp)
    have ih := runR_spans (q :: r) (x ||| spanBits f t) (by simp) (fun p hp => h p (by simp only [List.mem_cons] at hp ⊢; exact .inr hp))
    have e : joinT ((f, t) :: q :: r) ++ [44] = (text2 f t ++ [44]) ++ (joinT (q :: r) ++ [44]) := by
      unfold joinT
      rw [List.map_cons, List.map_cons, join_two, ← List.map_cons, spanText_eq f t (by simp only at h1; omega) (by simp only at h2; omega)]
      simp
    rw [e, runR_append, runR_text x f t h3 h2]
    simp only [Option.bind_some]
    rw [ih, spansBits_cons (f, t), BitVec.or_assoc]
/-- A set that isn't empty: its text is read as it. -/
theorem runR_show {s : BitVec 64} (hs : s ≠ 0#64) : runR (0#64, -1, -1) (showL s ++ [44]) = some (s, -1, -1) := by
  have h := runR_spans (spansOf (cats s)) 0#64 (spansOf_ne (fun e => hs (cats_eq_nil.1 e))) (fun p hp => spans_all hp)
  rw [spansBits_of _ (fun c hc => cats_lt hc), orAll_cats] at h
  have e : showL s = joinT (spansOf (cats s)) := by rw [showL, if_neg hs]; rfl
  rw [e, h]
  simp
end Go.Proofs.YtegjlgdbipfpaaaGreatDoor
