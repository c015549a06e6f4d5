/-
  set.number, set.stretch, span.set.
-/
import Derived.Test.YtegjlgdbipfpaaaGreatDoorShow
namespace Go.Proofs.YtegjlgdbipfpaaaGreatDoor
open Go Go.RowKit

/-- A category's number out of a text; false: it is none. -/
def numRes (l : List UInt8) : Int × Bool :=
  match Lib.atoiAll l with
  | .ok v => (v, isCat v)
  | .range => (Lib.atoiSat l, false)
  | _ => (0, false)

theorem bytesWorld_below (w : World) (e : TypeId) (t : ByteArray) : Below w.heap.size w (Lib.bytesWorld w e t) := by
  unfold Lib.bytesWorld
  exact Lib.below_freeze ((Below.refl _ w).drew.alloc (Nat.le_refl _) _) (Nat.le_refl _) 1

theorem atoi_ok (s : ByteArray) (hs : s.size ≤ 281474976710656) (v : Int) (h : Lib.atoiAll s.data.toList = .ok v) (w : World) :
    Calls Tryz.prog 75 #[.string s] w fun e w' => e = .returned (.tuple #[.int .i64 v, .nilIface]) ∧ Below w.heap.size w w' := by
  refine (Tryz.strconv_Atoi_ok s (by omega) v h w).mono fun e w' ⟨he, hw⟩ => ⟨he, ?_⟩
  rcases hw with rfl | ⟨t, rfl⟩
  · exact Below.refl _ _
  · exact bytesWorld_below _ _ _
/-- strconv.Atoi fails: some number, and an error that is not nil. -/
theorem atoi_bad (s : ByteArray) (hs : s.size ≤ 281474976710656) (w : World) (hl : Laid w) (h : ∀ v, Lib.atoiAll s.data.toList ≠ .ok v) :
    Calls Tryz.prog 75 #[.string s] w fun e w' => ∃ T x, e = .returned (.tuple #[.int .i64 (numRes s.data.toList).1, .iface T x]) ∧ Below w.heap.size w w' := by
  obtain ⟨te, pe, hS⟩ := hl.eS
  obtain ⟨te', pe', hR⟩ := hl.eR
  cases hz : Lib.atoiAll s.data.toList
  · exact absurd hz (h _)
  · have e : (numRes s.data.toList).1 = 0 := by simp [numRes, hz]
    rw [e]
    exact (Any.strconv_Atoi_syntax Tryz.laysC172 s hs hz _ w hS (.inr ⟨te, pe, rfl⟩)).mono fun e w' ⟨N, he, _, _, hb⟩ => ⟨_, _, he, hb⟩
  · have e : (numRes s.data.toList).1 = Lib.atoiSat s.data.toList := by simp [numRes, hz]
    rw [e]
    exact (Tryz.strconv_Atoi_range s hs hz _ w hR (.inr ⟨te', pe', rfl⟩)).mono fun e w' ⟨N, he, _, _, hb⟩ => ⟨_, _, he, hb⟩
theorem numRes_bad (l : List UInt8) (h : ∀ v, Lib.atoiAll l ≠ .ok v) : (numRes l).2 = false := by
  unfold numRes
  cases hz : Lib.atoiAll l
  · exact absurd hz (h _)
  · rfl
  · rfl

theorem number_ok (s : ByteArray) (hs : s.size ≤ 281474976710656) (v : Int) (h : Lib.atoiAll s.data.toList = .ok v) (w : World) :
    Calls Tryz.prog 61 #[.string s] w fun e w' => e = .returned (.tuple #[.int .i64 v, .bool (isCat v)]) ∧ Below w.heap.size w w' := by
  have HA := Lib.hid (atoi_ok s hs v h w)
  clear h hs
  go_enter Tryz.func61, Tryz.ntmps61
  go_wp2_with fail
  refine HA.out.mono ?_
  rintro e w' ⟨rfl, hb⟩
  go_wp2_with (go_at_call 76; refine (there_any _ _).mono ?_; rintro e w' ⟨rfl, rfl⟩)
  go_ret2
  exact ⟨rfl, hb⟩
theorem number_bad (s : ByteArray) (hs : s.size ≤ 281474976710656) (w : World) (hl : Laid w) (h : ∀ v, Lib.atoiAll s.data.toList ≠ .ok v) :
    Calls Tryz.prog 61 #[.string s] w fun e w' => e = .returned (.tuple #[.int .i64 (numRes s.data.toList).1, .bool false]) ∧ Below w.heap.size w w' := by
  have HA := Lib.hid (atoi_bad s hs w hl h)
  clear h hs hl
  go_enter Tryz.func61, Tryz.ntmps61
  go_wp2_with fail
  refine HA.out.mono ?_
  rintro e w' ⟨T, x, rfl, hb⟩
  go_wp2
  go_ret2
  exact ⟨rfl, hb⟩

theorem number_any (s : ByteArray) (hs : s.size ≤ 281474976710656) (w : World) (hl : Laid w) :
    Calls Tryz.prog 61 #[.string s] w fun e w' => e = .returned (.tuple #[.int .i64 (numRes s.data.toList).1, .bool (numRes s.data.toList).2]) ∧ Below w.heap.size w w' := by
  by_cases h : ∃ v, Lib.atoiAll s.data.toList = .ok v
  · obtain ⟨v, h⟩ := h
    rw [show numRes s.data.toList = (v, isCat v) by simp [numRes, h]]
    exact number_ok s hs v h w
  · have h' : ∀ v, Lib.atoiAll s.data.toList ≠ .ok v := fun v e => h ⟨v, e⟩
    rw [numRes_bad _ h']
    exact number_bad s hs w hl h'

/-- A stretch out of a text; false: it is none. -/
def stretchRes (l : List UInt8) : Int × Int × Bool :=
  if !(Lib.cut l [45]).2.2 || !(numRes (Lib.cut l [45]).1).2 then ((numRes (Lib.cut l [45]).1).1, (numRes (Lib.cut l [45]).1).1, (numRes (Lib.cut l [45]).1).2)
  else ((numRes (Lib.cut l [45]).1).1, (numRes (Lib.cut l [45]).2.1).1, (numRes (Lib.cut l [45]).2.1).2 && decide ((numRes (Lib.cut l [45]).1).1 < (numRes (Lib.cut l [45]).2.1).1))

theorem cut_any (s sep : ByteArray) (hs : s.size < 4294967281) (w : World) (hl : Laid w) :
    Calls Tryz.prog 27 #[.string s, .string sep] w fun e w' => e = .returned (.tuple #[Str (Lib.cut s.data.toList sep.data.toList).1, Str (Lib.cut s.data.toList sep.data.toList).2.1, .bool (Lib.cut s.data.toList sep.data.toList).2.2]) ∧ Below w.heap.size w w' := by
  obtain ⟨m, hm⟩ := hl.mx
  exact (Tryz.strings_Cut s sep m w hs hm).mono fun e w' ⟨he, n, hn⟩ => ⟨he, by subst hn; exact below_drewN (Below.refl _ _) n⟩
theorem cut_len (l sep : List UInt8) : (Lib.cut l sep).1.length ≤ l.length ∧ (Lib.cut l sep).2.1.length ≤ l.length := by
  unfold Lib.cut
  split
  · exact ⟨by simp only [List.length_take]; omega, by simp⟩
  · simp

theorem stretch_one (s : ByteArray) (w : World) (a b : List UInt8) (n1 : Int) (two ok1 : Bool) (hsel : two = false ∨ ok1 = false)
    (HC : Hid (Calls Tryz.prog 27 #[.string s, .string ⟨#[45]⟩] (w.alloc (.cells #[.int .i64 0, .int .i64 0] 61)) fun e w' => e = .returned (.tuple #[Str a, Str b, .bool two]) ∧ Below (w.heap.size + 1) (w.alloc (.cells #[.int .i64 0, .int .i64 0] 61)) w'))
    (HN1 : Hid (∀ W, Below (w.heap.size + 1) (w.alloc (.cells #[.int .i64 0, .int .i64 0] 61)) W → Calls Tryz.prog 61 #[Str a] W fun e w' => e = .returned (.tuple #[.int .i64 n1, .bool ok1]) ∧ Below (w.heap.size + 1) (w.alloc (.cells #[.int .i64 0, .int .i64 0] 61)) w')) :
    Calls Tryz.prog 46 #[.string s] w fun e w' => e = .returned (.tuple #[.agg #[.int .i64 n1, .int .i64 n1], .bool ok1]) ∧ Below w.heap.size w w' := by
  have HB0 := Lib.hid ((Below.refl _ w).alloc (Nat.le_refl _) (.cells #[.int .i64 0, .int .i64 0] 61))
  have c0 : (w.alloc (.cells #[.int .i64 0, .int .i64 0] 61)).cell? ⟨w.heap.size, 0, none⟩ = some (.int .i64 0) := by simp
  have c1 : (w.alloc (.cells #[.int .i64 0, .int .i64 0] 61)).cell? ⟨w.heap.size, 1, none⟩ = some (.int .i64 0) := by simp
  have f0 : ∀ j, (w.alloc (.cells #[.int .i64 0, .int .i64 0] 61)).frozen? ⟨w.heap.size, j, none⟩ = false := by simp
  have HC0 := Lib.hid c0
  have HC1 := Lib.hid c1
  have HF := Lib.hid f0
  clear c0 c1 f0
  go_enter Tryz.func46, Tryz.ntmps46
  go_wp2_with fail
  refine HC.out.mono ?_
  rintro e w1 ⟨rfl, hb1⟩
  have HB1 := Lib.hid hb1
  clear hb1
  go_wp2_with fail
  refine (HN1.out _ HB1.out).mono ?_
  rintro e w2 ⟨rfl, hb2⟩
  have d0 := (hb2.cell (p := ⟨w.heap.size, 0, none⟩) (by simp)).trans HC0.out
  have d1 := (hb2.cell (p := ⟨w.heap.size, 1, none⟩) (by simp)).trans HC1.out
  have g0 := (hb2.frozen (p := ⟨w.heap.size, 0, none⟩) (by simp)).trans (HF.out 0)
  have g1 := (hb2.frozen (p := ⟨w.heap.size, 1, none⟩) (by simp)).trans (HF.out 1)
  have HB2 := Lib.hid hb2
  clear hb2
  cases two
  · cases ok1
    · go_wp2
      refine bodyPost_ret (v := .tuple #[.agg #[.int .i64 n1, .int .i64 n1], .bool false]) ?_ rfl ⟨rfl, ?_⟩
      · simp [results, Tryz.results46, go_sem, d0, d1]
      · exact ((HB0.out.trans (HB2.out.mono (by omega))).setCell (p := ⟨w.heap.size, 0, none⟩) (Nat.le_refl _) _).setCell (p := ⟨w.heap.size, 1, none⟩) (Nat.le_refl _) _
    · go_wp2
      refine bodyPost_ret (v := .tuple #[.agg #[.int .i64 n1, .int .i64 n1], .bool true]) ?_ rfl ⟨rfl, ?_⟩
      · simp [results, Tryz.results46, go_sem, d0, d1]
      · exact ((HB0.out.trans (HB2.out.mono (by omega))).setCell (p := ⟨w.heap.size, 0, none⟩) (Nat.le_refl _) _).setCell (p := ⟨w.heap.size, 1, none⟩) (Nat.le_refl _) _
  · cases ok1
    · go_wp2
      refine bodyPost_ret (v := .tuple #[.agg #[.int .i64 n1, .int .i64 n1], .bool false]) ?_ rfl ⟨rfl, ?_⟩
      · simp [results, Tryz.results46, go_sem, d0, d1]
      · exact ((HB0.out.trans (HB2.out.mono (by omega))).setCell (p := ⟨w.heap.size, 0, none⟩) (Nat.le_refl _) _).setCell (p := ⟨w.heap.size, 1, none⟩) (Nat.le_refl _) _
    · simp at hsel

theorem stretch_two (s : ByteArray) (w : World) (a b : List UInt8) (n1 n2 : Int) (ok2 : Bool)
    (HC : Hid (Calls Tryz.prog 27 #[.string s, .string ⟨#[45]⟩] (w.alloc (.cells #[.int .i64 0, .int .i64 0] 61)) fun e w' => e = .returned (.tuple #[Str a, Str b, .bool true]) ∧ Below (w.heap.size + 1) (w.alloc (.cells #[.int .i64 0, .int .i64 0] 61)) w'))
    (HN1 : Hid (∀ W, Below (w.heap.size + 1) (w.alloc (.cells #[.int .i64 0, .int .i64 0] 61)) W → Calls Tryz.prog 61 #[Str a] W fun e w' => e = .returned (.tuple #[.int .i64 n1, .bool true]) ∧ Below (w.heap.size + 1) (w.alloc (.cells #[.int .i64 0, .int .i64 0] 61)) w'))
    (HN2 : Hid (∀ W, Below (w.heap.size + 1) (w.alloc (.cells #[.int .i64 0, .int .i64 0] 61)) W → Calls Tryz.prog 61 #[Str b] W fun e w' => e = .returned (.tuple #[.int .i64 n2, .bool ok2]) ∧ Below (w.heap.size + 1) (w.alloc (.cells #[.int .i64 0, .int .i64 0] 61)) w')) :
    Calls Tryz.prog 46 #[.string s] w fun e w' => e = .returned (.tuple #[.agg #[.int .i64 n1, .int .i64 n2], .bool (ok2 && decide (n1 < n2))]) ∧ Below w.heap.size w w' := by
  have HB0 := Lib.hid ((Below.refl _ w).alloc (Nat.le_refl _) (.cells #[.int .i64 0, .int .i64 0] 61))
  have c0 : (w.alloc (.cells #[.int .i64 0, .int .i64 0] 61)).cell? ⟨w.heap.size, 0, none⟩ = some (.int .i64 0) := by simp
  have c1 : (w.alloc (.cells #[.int .i64 0, .int .i64 0] 61)).cell? ⟨w.heap.size, 1, none⟩ = some (.int .i64 0) := by simp
  have f0 : ∀ j, (w.alloc (.cells #[.int .i64 0, .int .i64 0] 61)).frozen? ⟨w.heap.size, j, none⟩ = false := by simp
  have HC0 := Lib.hid c0
  have HC1 := Lib.hid c1
  have HF := Lib.hid f0
  clear c0 c1 f0
  have key : ∀ r : Bool, (ok2 && decide (n1 < n2)) = r → Calls Tryz.prog 46 #[.string s] w fun e w' => e = .returned (.tuple #[.agg #[.int .i64 n1, .int .i64 n2], .bool r]) ∧ Below w.heap.size w w' := by
    intro r hr
    have HR := Lib.hid hr
    clear hr
    go_enter Tryz.func46, Tryz.ntmps46
    go_wp2_with fail
    refine HC.out.mono ?_
    rintro e w1 ⟨rfl, hb1⟩
    have HB1 := Lib.hid hb1
    clear hb1
    go_wp2_with fail
    refine (HN1.out _ HB1.out).mono ?_
    rintro e w2 ⟨rfl, hb2⟩
    have HB2 := Lib.hid hb2
    clear hb2
    go_wp2_with fail
    refine (HN2.out _ HB2.out).mono ?_
    rintro e w3 ⟨rfl, hb3⟩
    have d0 := (hb3.cell (p := ⟨w.heap.size, 0, none⟩) (by simp)).trans HC0.out
    have d1 := (hb3.cell (p := ⟨w.heap.size, 1, none⟩) (by simp)).trans HC1.out
    have g0 := (hb3.frozen (p := ⟨w.heap.size, 0, none⟩) (by simp)).trans (HF.out 0)
    have g1 := (hb3.frozen (p := ⟨w.heap.size, 1, none⟩) (by simp)).trans (HF.out 1)
    have HB3 := Lib.hid hb3
    clear hb3
    cases ok2
    · have hr := HR.out
      simp only [Bool.false_and] at hr
      subst hr
      go_wp2
      refine bodyPost_ret (v := .tuple #[.agg #[.int .i64 n1, .int .i64 n2], .bool false]) ?_ rfl ⟨rfl, ?_⟩
      · simp [results, Tryz.results46, go_sem, d0, d1]
      · exact ((HB0.out.trans (HB3.out.mono (by omega))).setCell (p := ⟨w.heap.size, 0, none⟩) (Nat.le_refl _) _).setCell (p := ⟨w.heap.size, 1, none⟩) (Nat.le_refl _) _
    · by_cases hlt : n1 < n2
      · have hr := HR.out
        simp only [hlt, decide_true, Bool.and_self] at hr
        subst hr
        go_wp2
        refine bodyPost_ret (v := .tuple #[.agg #[.int .i64 n1, .int .i64 n2], .bool true]) ?_ rfl ⟨rfl, ?_⟩
        · simp [results, Tryz.results46, go_sem, d0, d1]
        · exact ((HB0.out.trans (HB3.out.mono (by omega))).setCell (p := ⟨w.heap.size, 0, none⟩) (Nat.le_refl _) _).setCell (p := ⟨w.heap.size, 1, none⟩) (Nat.le_refl _) _
      · have hr := HR.out
        simp only [hlt, decide_false, Bool.and_false] at hr
        subst hr
        go_wp2
        refine bodyPost_ret (v := .tuple #[.agg #[.int .i64 n1, .int .i64 n2], .bool false]) ?_ rfl ⟨rfl, ?_⟩
        · simp [results, Tryz.results46, go_sem, d0, d1]; omega
        · exact ((HB0.out.trans (HB3.out.mono (by omega))).setCell (p := ⟨w.heap.size, 0, none⟩) (Nat.le_refl _) _).setCell (p := ⟨w.heap.size, 1, none⟩) (Nat.le_refl _) _
  exact key _ rfl

/-- **set.stretch** -/
theorem stretch_any (s : ByteArray) (hs : s.size < 4294967281) (w : World) (hl : Laid w) :
    Calls Tryz.prog 46 #[.string s] w fun e w' =>
      e = .returned (.tuple #[.agg #[.int .i64 (stretchRes s.data.toList).1, .int .i64 (stretchRes s.data.toList).2.1], .bool (stretchRes s.data.toList).2.2]) ∧ Below w.heap.size w w' := by
  have hB0 : Below w.heap.size w (w.alloc (.cells #[.int .i64 0, .int .i64 0] 61)) := (Below.refl _ w).alloc (Nat.le_refl _) _
  have hl1 := hl.below hB0
  have HC := cut_any s ⟨#[45]⟩ hs _ hl1
  rw [World.size_alloc] at HC
  have hlen := cut_len s.data.toList [45]
  have hsz : s.data.toList.length < 4294967281 := by simpa using hs
  have hlW : ∀ W, Below (w.heap.size + 1) (w.alloc (.cells #[.int .i64 0, .int .i64 0] 61)) W → Laid W := fun W hW => hl1.below (by rw [World.size_alloc]; exact hW)
  have hn : ∀ a : List UInt8, a.length < 4294967281 → ∀ W, Below (w.heap.size + 1) (w.alloc (.cells #[.int .i64 0, .int .i64 0] 61)) W → Calls Tryz.prog 61 #[Str a] W fun e w' => e = .returned (.tuple #[.int .i64 (numRes a).1, .bool (numRes a).2]) ∧ Below (w.heap.size + 1) (w.alloc (.cells #[.int .i64 0, .int .i64 0] 61)) w' := by
    intro a ha W hW
    refine (number_any ⟨a.toArray⟩ (by simp [ByteArray.size]; omega) W (hlW W hW)).mono fun e w' ⟨he, hb⟩ => ⟨he, hW.trans (hb.mono ?_)⟩
    have := hW.size
    rw [World.size_alloc] at this
    exact this
  have h1 := hn (Lib.cut s.data.toList [45]).1 (by omega)
  have h2 := hn (Lib.cut s.data.toList [45]).2.1 (by omega)
  clear hn hlW hlen hsz hl1
  unfold stretchRes
  have HC' : Calls Tryz.prog 27 #[.string s, .string ⟨#[45]⟩] (w.alloc (.cells #[.int .i64 0, .int .i64 0] 61)) fun e w' => e = .returned (.tuple #[Str (Lib.cut s.data.toList [45]).1, Str (Lib.cut s.data.toList [45]).2.1, .bool (Lib.cut s.data.toList [45]).2.2]) ∧ Below (w.heap.size + 1) (w.alloc (.cells #[.int .i64 0, .int .i64 0] 61)) w' := HC
  clear HC
  obtain ⟨⟨a, b, two⟩, hcut⟩ : ∃ z, Lib.cut s.data.toList [45] = z := ⟨_, rfl⟩
  rw [hcut] at h1 h2 HC' ⊢
  obtain ⟨⟨n1, ok1⟩, hn1⟩ : ∃ z, numRes a = z := ⟨_, rfl⟩
  obtain ⟨⟨n2, ok2⟩, hn2⟩ : ∃ z, numRes b = z := ⟨_, rfl⟩
  rw [hn1] at h1
  rw [hn2] at h2
  simp only [hn1, hn2]
  simp only at h1 h2 HC'
  cases two
  · exact stretch_one s w a b n1 false ok1 (.inl rfl) HC' h1
  · cases ok1
    · exact stretch_one s w a b n1 true false (.inr rfl) HC' h1
    · exact stretch_two s w a b n1 n2 ok2 HC' h1 h2

/-- The set of a stretch. -/
def spanBits (f t : Nat) : BitVec 64 := (1#64 <<< (t + 1)) - (1#64 <<< f)
theorem wrap_pow (n : Nat) : IntKind.u64.wrap (2 ^ n) = ((1#64 <<< n).toNat : Int) := by
  have e := shl_one_bv n
  rwa [Int.one_mul] at e
theorem spanBits_eq (f t : Nat) : IntKind.u64.wrap (IntKind.u64.wrap (2 ^ (t + 1)) - IntKind.u64.wrap (2 ^ f)) = ((spanBits f t).toNat : Int) := by
  rw [wrap_pow, wrap_pow]; exact sub_bv _ _
theorem spanSet_any (f t : Nat) (hf : f < 64) (ht : t < 64) (w : World) :
    Calls Tryz.prog 47 #[.agg #[.int .i64 f, .int .i64 t]] w fun e w' => e = .returned (U (spanBits f t)) ∧ Below w.heap.size w w' := by
  go_enter Tryz.func47, Tryz.ntmps47
  go_wp2
  go_quiet (fail)
  go_wp2
  go_ret
  exact ⟨ret_of (congrArg (Value.int .u64) (spanBits_eq f t)), below_drewN ((Below.refl _ _).alloc (Nat.le_refl _) _) nq⟩
end Go.Proofs.YtegjlgdbipfpaaaGreatDoor
