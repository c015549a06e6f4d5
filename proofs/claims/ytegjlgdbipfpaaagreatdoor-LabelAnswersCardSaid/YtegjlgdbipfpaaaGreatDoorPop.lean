/-
  Plain law: what bits.OnesCount64 computes is the number of a set's categories. Byte by byte: a number is 256 * x + b.
-/
import Derived.Test.YtegjlgdbipfpaaaGreatDoorBits
namespace Go.Proofs.YtegjlgdbipfpaaaGreatDoor

/-- How many of the lowest n bits are 1. -/
def pop (n x : Nat) : Nat := ((List.range n).filter (fun i => x.testBit i)).length

theorem land_byte (a b c e : Nat) (hb : b < 256) (he : e < 256) : (256 * a + b) &&& (256 * c + e) = 256 * (a &&& c) + (b &&& e) := by
  have hbe : b &&& e < 256 := Nat.lt_of_le_of_lt Nat.and_le_left hb
  apply Nat.eq_of_testBit_eq
  intro i
  rw [Nat.testBit_and, show (256 : Nat) = 2 ^ 8 from rfl, Nat.testBit_two_pow_mul_add _ hb, Nat.testBit_two_pow_mul_add _ he, Nat.testBit_two_pow_mul_add _ hbe]
  split
  · rw [Nat.testBit_and]
  · rw [Nat.testBit_and]

theorem pop_byte (n x b : Nat) (hb : b < 256) : pop (8 + n) (256 * x + b) = pop 8 b + pop n x := by
  unfold pop
  rw [List.range_add, List.filter_append, List.length_append, List.filter_map, List.length_map]
  congr 2
  · apply List.filter_congr
    intro i hi
    rw [List.mem_range] at hi
    rw [show (256 : Nat) = 2 ^ 8 from rfl, Nat.testBit_two_pow_mul_add _ hb, if_pos hi]
  · apply List.filter_congr
    intro i _
    simp only [Function.comp]
    rw [show (256 : Nat) = 2 ^ 8 from rfl, Nat.testBit_two_pow_mul_add _ hb, if_neg (by omega)]
    congr 1; omega

def s1 (M x : Nat) : Nat := (x / 2 &&& M) + (x &&& M)
def s2 (M x : Nat) : Nat := (x / 4 &&& M) + (x &&& M)
def s3 (M x : Nat) : Nat := (x / 16 + x) &&& M

theorem and85 : ∀ t, t < 2 → ∀ c, c < 128 → (128 * t + c) &&& 85 = c &&& 85 := by decide +kernel
theorem and51 : ∀ t, t < 4 → ∀ c, c < 64 → (64 * t + c) &&& 51 = c &&& 51 := by decide +kernel
theorem s1_small : ∀ b, b < 256 → s1 85 b ≤ 170 := by decide +kernel
/-- Both halves of a byte are at most 4. -/
def nib (b : Nat) : Prop := b % 16 ≤ 4 ∧ b / 16 ≤ 4
instance (b : Nat) : Decidable (nib b) := by unfold nib; infer_instance
theorem s2_small : ∀ b, b < 256 → nib (s2 51 (s1 85 b)) := by decide +kernel
theorem s3_pop : ∀ b, b < 256 → s3 15 (s2 51 (s1 85 b)) = pop 8 b ∧ pop 8 b ≤ 8 := by decide +kernel

theorem s1_byte (M x b : Nat) (hb : b < 256) : s1 (256 * M + 85) (256 * x + b) = 256 * s1 M x + s1 85 b := by
  unfold s1
  have e : (256 * x + b) / 2 = 256 * (x / 2) + (128 * (x % 2) + b / 2) := by omega
  rw [e, land_byte _ _ _ _ (by omega) (by omega), land_byte _ _ _ _ hb (by omega), and85 _ (by omega) _ (by omega)]
  omega
theorem s2_byte (M x b : Nat) (hb : b < 256) : s2 (256 * M + 51) (256 * x + b) = 256 * s2 M x + s2 51 b := by
  unfold s2
  have e : (256 * x + b) / 4 = 256 * (x / 4) + (64 * (x % 4) + b / 4) := by omega
  rw [e, land_byte _ _ _ _ (by omega) (by omega), land_byte _ _ _ _ hb (by omega), and51 _ (by omega) _ (by omega)]
  omega
theorem s3_byte (M x b : Nat) (hx : x % 16 ≤ 4) (hb : nib b) : s3 (256 * M + 15) (256 * x + b) = 256 * s3 M x + s3 15 b := by
  obtain ⟨h1, h2⟩ := hb
  unfold s3
  have e : (256 * x + b) / 16 + (256 * x + b) = 256 * (x / 16 + x) + (16 * (x % 16) + b / 16 + b) := by omega
  rw [e, land_byte _ _ _ _ (by omega) (by omega), show (15 : Nat) = 2 ^ 4 - 1 from rfl, Nat.and_two_pow_sub_one_eq_mod, Nat.and_two_pow_sub_one_eq_mod]
  have : (16 * (x % 16) + b / 16 + b) % 2 ^ 4 = (b / 16 + b) % 2 ^ 4 := by omega
  rw [this]

/-- The masks of n bytes. -/
def rep (e : Nat) : Nat → Nat
  | 0 => 0
  | n + 1 => 256 * rep e n + e

/-- The first three steps on n bytes. -/
def s123 (n x : Nat) : Nat := s3 (rep 15 n) (s2 (rep 51 n) (s1 (rep 85 n) x))

theorem s12_nib (n x : Nat) : s2 (rep 51 n) (s1 (rep 85 n) x) % 16 ≤ 4 := by
  cases n with
  | zero => simp [rep, s2]
  | succ n =>
    have e : x = 256 * (x / 256) + x % 256 := by omega
    have hb : x % 256 < 256 := by omega
    rw [e, rep, rep, s1_byte _ _ _ hb, s2_byte _ _ _ (by have := s1_small _ hb; omega)]
    have := (s2_small _ hb).1
    omega

theorem s123_byte (n x b : Nat) (hb : b < 256) : s123 (n + 1) (256 * x + b) = 256 * s123 n x + pop 8 b := by
  unfold s123
  rw [rep, rep, rep, s1_byte _ _ _ hb, s2_byte _ _ _ (by have := s1_small _ hb; omega), s3_byte _ _ _ (s12_nib n x) (s2_small _ hb), (s3_pop _ hb).1]

def m64 : Nat := 18446744073709551616
def fold (y d : Nat) : Nat := (y + y / d) % m64
/-- The whole of OnesCount64, over Nat. -/
def ones (x : Nat) : Nat := fold (fold (fold (s123 8 x) 256) 65536) 4294967296 % 128

/-- A number by its bytes, the lowest first. -/
def ofDigits : List Nat → Nat
  | [] => 0
  | p :: l => 256 * ofDigits l + p
theorem ofDigits_lt : ∀ (l : List Nat), (∀ p ∈ l, p < 256) → ofDigits l < 256 ^ l.length
  | [], _ => by simp [ofDigits]
  | p :: l, h => by
    have h1 := h p (by simp)
    have h2 := ofDigits_lt l (fun q hq => h q (by simp [hq]))
    simp only [ofDigits, List.length_cons, Nat.pow_succ]
    omega
theorem ofDigits_div (p : Nat) (l : List Nat) (h : p < 256) : ofDigits (p :: l) / 256 = ofDigits l := by
  simp only [ofDigits]; omega

theorem fold_of {y d q z : Nat} (hq : y / d = q) (hz : y + q = z) (hlt : z < 18446744073709551616) : fold y d = z := by
  unfold fold m64
  rw [hq, hz, Nat.mod_eq_of_lt hlt]
theorem lt64 (l : List Nat) (hl : l.length = 8) (h : ∀ p ∈ l, p < 256) : ofDigits l < 18446744073709551616 := by
  have := ofDigits_lt l h
  rw [hl] at this
  exact this

theorem fold8 (p0 p1 p2 p3 p4 p5 p6 p7 : Nat) (h0 : p0 ≤ 8) (h1 : p1 ≤ 8) (h2 : p2 ≤ 8) (h3 : p3 ≤ 8) (h4 : p4 ≤ 8) (h5 : p5 ≤ 8) (h6 : p6 ≤ 8) (h7 : p7 ≤ 8) :
    fold (fold (fold (ofDigits [p0, p1, p2, p3, p4, p5, p6, p7]) 256) 65536) 4294967296 % 128 = p0 + p1 + p2 + p3 + p4 + p5 + p6 + p7 := by
  have a4 : fold (ofDigits [p0, p1, p2, p3, p4, p5, p6, p7]) 256 = ofDigits [p0 + p1, p1 + p2, p2 + p3, p3 + p4, p4 + p5, p5 + p6, p6 + p7, p7] :=
    fold_of (ofDigits_div _ _ (by omega)) (by simp only [ofDigits]; omega) (lt64 _ rfl (by intro p hp; simp at hp; omega))
  have a5 : fold (ofDigits [p0 + p1, p1 + p2, p2 + p3, p3 + p4, p4 + p5, p5 + p6, p6 + p7, p7]) 65536 =
      ofDigits [p0 + p1 + p2 + p3, p1 + p2 + p3 + p4, p2 + p3 + p4 + p5, p3 + p4 + p5 + p6, p4 + p5 + p6 + p7, p5 + p6 + p7, p6 + p7, p7] :=
    fold_of (q := ofDigits [p2 + p3, p3 + p4, p4 + p5, p5 + p6, p6 + p7, p7])
      (by rw [show (65536 : Nat) = 256 * 256 from rfl, ← Nat.div_div_eq_div_mul, ofDigits_div _ _ (by omega), ofDigits_div _ _ (by omega)]) (by simp only [ofDigits]; omega) (lt64 _ rfl (by intro p hp; simp at hp; omega))
  have a6 : fold (ofDigits [p0 + p1 + p2 + p3, p1 + p2 + p3 + p4, p2 + p3 + p4 + p5, p3 + p4 + p5 + p6, p4 + p5 + p6 + p7, p5 + p6 + p7, p6 + p7, p7]) 4294967296 =
      ofDigits [p0 + p1 + p2 + p3 + p4 + p5 + p6 + p7, p1 + p2 + p3 + p4 + p5 + p6 + p7, p2 + p3 + p4 + p5 + p6 + p7, p3 + p4 + p5 + p6 + p7, p4 + p5 + p6 + p7, p5 + p6 + p7, p6 + p7, p7] :=
    fold_of (q := ofDigits [p4 + p5 + p6 + p7, p5 + p6 + p7, p6 + p7, p7])
      (by rw [show (4294967296 : Nat) = 256 * 256 * 256 * 256 from rfl, ← Nat.div_div_eq_div_mul, ← Nat.div_div_eq_div_mul, ← Nat.div_div_eq_div_mul, ofDigits_div _ _ (by omega), ofDigits_div _ _ (by omega), ofDigits_div _ _ (by omega), ofDigits_div _ _ (by omega)])
      (by simp only [ofDigits]; omega) (lt64 _ rfl (by intro p hp; simp at hp; omega))
  rw [a4, a5, a6]
  rw [ofDigits]
  omega

def bytesOf : Nat → Nat → List Nat
  | 0, _ => []
  | n + 1, x => x % 256 :: bytesOf n (x / 256)
theorem bytesOf_lt : ∀ (n x : Nat), ∀ p ∈ bytesOf n x, p < 256
  | 0, _, p, h => by simp [bytesOf] at h
  | n + 1, x, p, h => by
    simp only [bytesOf, List.mem_cons] at h
    rcases h with rfl | h
    · omega
    · exact bytesOf_lt n _ p h
theorem ofDigits_bytes : ∀ (n x : Nat), x < 256 ^ n → ofDigits (bytesOf n x) = x
  | 0, x, h => by simp at h; simp [bytesOf, ofDigits, h]
  | n + 1, x, h => by
    rw [Nat.pow_succ] at h
    rw [bytesOf, ofDigits, ofDigits_bytes n (x / 256) (by omega)]
    omega
theorem s123_bytes : ∀ (n x : Nat), s123 n (ofDigits (bytesOf n x)) = ofDigits ((bytesOf n x).map (pop 8))
  | 0, x => by simp [bytesOf, ofDigits, s123, s1, s2, s3, rep]
  | n + 1, x => by
    rw [bytesOf, ofDigits, s123_byte _ _ _ (by omega), s123_bytes n (x / 256)]
    rfl
theorem pop_bytes : ∀ (n x : Nat), pop (8 * n) (ofDigits (bytesOf n x)) = ((bytesOf n x).map (pop 8)).sum
  | 0, x => by simp [bytesOf, pop]
  | n + 1, x => by
    rw [bytesOf, ofDigits, show 8 * (n + 1) = 8 + 8 * n by omega, pop_byte _ _ _ (by omega), pop_bytes n (x / 256), List.map_cons, List.sum_cons]

theorem ones_pop (x : Nat) (hx : x < 18446744073709551616) : ones x = pop 64 x := by
  have hd : ofDigits (bytesOf 8 x) = x := ofDigits_bytes 8 x hx
  have hs := s123_bytes 8 x
  have hp := pop_bytes 8 x
  have hl := bytesOf_lt 8 x
  rw [hd] at hs hp
  unfold ones
  rw [hs, show (64 : Nat) = 8 * 8 from rfl, hp]
  simp only [bytesOf, List.map_cons, List.map_nil, List.sum_cons, List.sum_nil] at hl ⊢
  rw [fold8 _ _ _ _ _ _ _ _ (s3_pop _ (hl _ (by simp))).2 (s3_pop _ (hl _ (by simp))).2 (s3_pop _ (hl _ (by simp))).2 (s3_pop _ (hl _ (by simp))).2 (s3_pop _ (hl _ (by simp))).2 (s3_pop _ (hl _ (by simp))).2 (s3_pop _ (hl _ (by simp))).2 (s3_pop _ (hl _ (by simp))).2]
  omega

theorem pop_cats (s : BitVec 64) : pop 64 s.toNat = (cats s).length := rfl
end Go.Proofs.YtegjlgdbipfpaaaGreatDoor
