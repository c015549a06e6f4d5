/-
  concordatlaw06.SetOrder returns true: its walk.
-/
import Derived.Test.YtegjlgdbipfpaaaDoorAliveA
namespace Go.Proofs.YtegjlgdbipfpaaaDoor
open Go Go.RowKit

/-- Is all of one set in another one? -/
def win (a b : BitVec 64) : Bool := a &&& ~~~b == 0#64
theorem win_iff (a b : BitVec 64) : win a b = true ↔ ∀ i, i < 64 → a.getLsbD i = true → b.getLsbD i = true := by
  unfold win
  rw [beq_iff_eq]
  constructor
  · intro h i hi ha
    have := congrArg (fun s => s.getLsbD i) h
    simp [ha, hi] at this
    exact this
  · intro h
    apply BitVec.eq_of_getLsbD_eq
    intro i hi
    have := h i hi
    rw [BitVec.getLsbD_and, BitVec.getLsbD_not]
    cases ha : a.getLsbD i <;> simp_all
theorem win_refl (a : BitVec 64) : win a a = true := (win_iff a a).2 fun _ _ h => h
theorem win_trans {a b c : BitVec 64} (h : win a b = true) (k : win b c = true) : win a c = true :=
  (win_iff a c).2 fun i hi ha => (win_iff b c).1 k i hi ((win_iff a b).1 h i hi ha)
theorem win_anti {a b : BitVec 64} (h : win a b = true) (k : win b a = true) : a = b := by
  apply BitVec.eq_of_getLsbD_eq
  intro i hi
  rw [Bool.eq_iff_iff]
  exact ⟨(win_iff a b).1 h i hi, (win_iff b a).1 k i hi⟩
theorem within_win (a b : BitVec 64) (w : World) : Calls Tryd.prog 26 #[.int .u64 (a.toNat : Int), .int .u64 (b.toNat : Int)] w fun e w' => e = .returned (.bool (win a b)) ∧ w = w' := within_any a b w

theorem minus_twice (a b : BitVec 64) : (a &&& ~~~b) &&& ~~~b = a &&& ~~~b := by rw [BitVec.and_assoc, BitVec.and_self]
theorem minus_within (a b : BitVec 64) : win (a &&& ~~~b) a = true := by
  rw [win_iff]; intro i hi h; simp at h; exact h.1
theorem within_or (a b : BitVec 64) : win a ((a &&& ~~~b) ||| b) = true := by
  rw [win_iff]; intro i hi h
  rw [BitVec.getLsbD_or, BitVec.getLsbD_and, BitVec.getLsbD_not, h]
  cases hb : b.getLsbD i <;> simp [hi]
theorem filter_split (l : List Nat) (p q : Nat → Bool) : (l.filter (fun i => p i && !q i)).length + (l.filter (fun i => p i && q i)).length = (l.filter p).length := by
  induction l with
  | nil => rfl
  | cons x l ih => cases hp : p x <;> cases hq : q x <;> simp [hp, hq] <;> omega
theorem cats_split (a b : BitVec 64) : (cats (a &&& ~~~b)).length + (cats (a &&& b)).length = (cats a).length := by
  unfold cats
  rw [← filter_split (List.range 64) (fun i => a.getLsbD i) (fun i => b.getLsbD i)]
  congr 2
  · apply List.filter_congr
    intro i hi
    rw [List.mem_range] at hi
    simp [hi]
  · apply List.filter_congr
    intro i hi
    simp

theorem row_shape {w : World} {base size k : Nat} {e : TypeId} {v : Value} {xs : List Value} (h : w.ownsRow base e size v k xs) : ∃ a cap, v = .slice a k cap := by
  rcases h.2 with ⟨rfl, h0⟩ | ⟨g, cap, _, rfl, _⟩
  · exact ⟨none, 0, by rw [h0]⟩
  · exact ⟨_, cap, rfl⟩
theorem list_len (s : BitVec 64) (w : World) (hl : Laid w) (hg : gTop ≤ w.heap.size) :
    Calls Tryd.prog 22 #[U s] w fun e w' => ∃ a cap, e = .returned (.slice a (cats s).length cap) ∧ Below w.heap.size w w' :=
  (list_any s w hl hg).mono fun e w' ⟨v, he, hr, hb⟩ => by
    obtain ⟨a, cap, rfl⟩ := row_shape hr
    exact ⟨a, cap, he, hb⟩

set_option maxHeartbeats 1000000 in
set_option maxRecDepth 100000 in
theorem order_any (a b c : BitVec 64) (w : World) (hg : gTop ≤ w.heap.size) (hl : Laid w) :
    Calls Tryd.prog 5 #[U a, U b, U c] w fun e w' => e = .returned (.bool true) ∧ Below w.heap.size w w' := by
  have HAL := Lib.hid (alive_any w hg hl)
  have HL := Lib.hid hl
  have haa := win_refl a
  have hm1 := minus_within a b
  have hm2 := within_or a b
  have hm3 := minus_twice a b
  have hm4 := cats_split a b
  have hab : (win a b) = (a &&& ~~~b == 0#64) := rfl
  obtain ⟨m, hm⟩ : ∃ m, a &&& ~~~b = m := ⟨_, rfl⟩
  have hmin := fun W => minus_any a b W
  rw [hm] at hm1 hm2 hm3 hm4 hab
  simp only [hm] at hmin
  have HM3 := Lib.hid hm3
  have HM4 := Lib.hid hm4
  have HMIN := Lib.hid hmin
  have HAB := Lib.hid hab
  clear hm3 hm4 hmin hab hm hl
  have hmin2 : ∀ W, Calls Tryd.prog 28 #[U m, U b] W fun e w' => e = .returned (U m) ∧ W = w' := fun W => by
    have := minus_any m b W
    rw [HM3.out] at this
    exact this
  have HMIN2 := Lib.hid hmin2
  clear hmin2
  have hz : ((m.toNat : Int) == 0) = win a b := by rw [zero_bv, ← HAB.out]
  have hsum : (((cats m).length : Int) + ((cats (a &&& b)).length : Int) == ((cats a).length : Int)) = true := by rw [beq_iff_eq]; have := HM4.out; omega
  have hlen1 := cats_length m
  have hlen2 := cats_length (a &&& b)
  have fin : ∀ (p q r s ne : Bool), win a b = p → win b a = q → win b c = r → win a c = s → ((a.toNat : Int) != (b.toNat : Int)) = ne →
      (p = true ∧ q = true ∧ ne = false ∧ r = true ∧ s = true ∨ p = true ∧ q = true ∧ ne = false ∧ r = false ∨ p = true ∧ q = false ∧ r = true ∧ s = true ∨ p = true ∧ q = false ∧ r = false ∨ p = false) →
      Calls Tryd.prog 5 #[U a, U b, U c] w fun e w' => e = .returned (.bool true) ∧ Below w.heap.size w w' := by
    intro p q r s ne hp hq hr hs hne hcase
    rw [hp] at hz
    have hlm := fun W hW hg => list_len m W hW hg
    have hla := fun W hW hg => list_len (a &&& b) W hW hg
    have hl0 := fun W hW hg => list_len a W hW hg
    have HLM := Lib.hid hlm
    have HLA := Lib.hid hla
    have HL0 := Lib.hid hl0
    clear hlm hla hl0
    rcases hcase with ⟨rfl, rfl, rfl, rfl, rfl⟩ | ⟨rfl, rfl, rfl, rfl⟩ | ⟨rfl, rfl, rfl, rfl⟩ | ⟨rfl, rfl, rfl⟩ | rfl
    all_goals
      go_enter Tryd.func5, Tryd.ntmps5
      go_wp2_with fail
      refine HAL.out.mono ?_
      rintro e w1 ⟨rfl, hB⟩
      go_wp2_with (go_at_call 26; refine (within_win _ _ _).mono ?_; rintro e w' ⟨rfl, rfl⟩)
      refine (HMIN.out _).mono ?_
      rintro e w' ⟨rfl, rfl⟩
      go_wp2_with fail
      refine (within_win m a _).mono ?_
      rintro e w' ⟨rfl, rfl⟩
      go_wp2_with fail
      refine (HMIN2.out _).mono ?_
      rintro e w' ⟨rfl, rfl⟩
      go_wp2_with fail
      rw [or_bv]
      refine (within_win a (m ||| b) _).mono ?_
      rintro e w' ⟨rfl, rfl⟩
      go_wp2_with fail
      refine (within_win a b _).mono ?_
      rintro e w' ⟨rfl, rfl⟩
      go_wp2_with fail
      refine (HLM.out _ (HL.out.below hB) (Nat.le_trans hg hB.size)).mono ?_
      rintro e w2 ⟨a2, c2, rfl, hb2⟩
      have hB2 := hB.trans (hb2.mono hB.size)
      clear hb2
      go_wp2_with fail
      rw [and_bv]
      refine (HLA.out _ (HL.out.below hB2) (Nat.le_trans hg hB2.size)).mono ?_
      rintro e w3 ⟨a3, c3, rfl, hb3⟩
      have hB3 := hB2.trans (hb3.mono hB2.size)
      clear hb3
      go_wp2_with fail
      refine (HL0.out _ (HL.out.below hB3) (Nat.le_trans hg hB3.size)).mono ?_
      rintro e w4 ⟨a4, c4, rfl, hb4⟩
      have hB4 := hB3.trans (hb4.mono hB3.size)
      clear hb4
      go_wp2
      go_ret
      exact ⟨rfl, hB4⟩
  refine fin _ _ _ _ _ rfl rfl rfl rfl rfl ?_
  by_cases hp : win a b = true
  · by_cases hq : win b a = true
    · obtain rfl := win_anti hp hq
      have hn : ((a.toNat : Int) != (a.toNat : Int)) = false := by simp
      cases hr : win a c
      · exact .inr (.inl ⟨hp, hq, hn, rfl⟩)
      · exact .inl ⟨hp, hq, hn, rfl, rfl⟩
    · cases hr : win b c
      · exact .inr (.inr (.inr (.inl ⟨hp, by simpa using hq, rfl⟩)))
      · exact .inr (.inr (.inl ⟨hp, by simpa using hq, rfl, win_trans hp hr⟩))
  · exact .inr (.inr (.inr (.inr (by simpa using hp))))
end Go.Proofs.YtegjlgdbipfpaaaDoor
