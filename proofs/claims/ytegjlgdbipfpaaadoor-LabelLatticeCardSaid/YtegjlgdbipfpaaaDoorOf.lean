/-
  set.Of, over a slice that reads as a list of numbers.
-/
import Derived.Test.YtegjlgdbipfpaaaDoorList
import Derived.LoopTactic
namespace Go.Proofs.YtegjlgdbipfpaaaDoor
open Go Go.RowKit

/-- A slice value that reads as a list of numbers. -/
def IntsAt (w : World) (v : Value) (L : List Int) : Prop :=
  (L = [] ∧ ∃ a cap, v = .slice a 0 cap) ∨ ∃ b off cap, v = .slice (some ⟨b, off, none⟩) L.length cap ∧ ∀ j, j < L.length → w.cell? ⟨b, off + j, none⟩ = some (.int .i64 (L[j]?.getD 0))

theorem IntsAt.below {w w' : World} {v : Value} {L : List Int} (h : IntsAt w v L) (hb : Below w.heap.size w w') : IntsAt w' v L := by
  rcases h with h | ⟨b, off, cap, hv, hc⟩
  · exact .inl h
  · exact .inr ⟨b, off, cap, hv, fun j hj => cell_below hb (hc j hj)⟩

def toInts (L : List Nat) : List Int := L.map fun (c : Nat) => (c : Int)

/-- A row of the call's own reads as the numbers that it holds. -/
theorem intsAt_row {w : World} {base : Nat} {v : Value} {L : List Nat} (h : w.ownsRow base 3 1 v L.length (ints L)) : IntsAt w v (toInts L) := by
  have hcells := fun g hg => World.ownsRow.cells h (g := g) hg
  rcases h.2 with ⟨rfl, h0⟩ | ⟨g, cap, cur, rfl, _⟩
  · have : L = [] := List.length_eq_zero_iff.1 h0
    exact .inl ⟨by rw [this]; rfl, none, 0, rfl⟩
  · refine .inr ⟨g, 0, cap, by simp [toInts], fun j hj => ?_⟩
    have hj' : j < L.length := by simpa [toInts] using hj
    have := hcells g rfl j (.int .i64 ((L[j] : Nat) : Int)) (by simp [ints, hj'])
    have hadd : (⟨g, 0, none⟩ : Addr).add j = ⟨g, j, none⟩ := by unfold Addr.add; split <;> simp_all
    rw [hadd] at this
    simpa [toInts, hj'] using this

def ofBits (L : List Int) : BitVec 64 := L.foldl (fun s c => s ||| (1#64 <<< c.toNat)) 0#64
theorem ofBits_snoc (L : List Int) (c : Int) : ofBits (L ++ [c]) = ofBits L ||| (1#64 <<< c.toNat) := by simp [ofBits]
theorem take_snoc_int (L : List Int) (k : Nat) (h : k < L.length) : L.take (k + 1) = L.take k ++ [L[k]?.getD 0] := by
  rw [List.take_succ_eq_append_getElem h]; simp [h]

theorem shl_or_bv (s : BitVec 64) (c : Nat) : bits .or .u64 (s.toNat : Int) (IntKind.u64.wrap (2 ^ c)) = ((s ||| (1#64 <<< c)).toNat : Int) := by
  have e := shl_one_bv c
  rw [Int.one_mul] at e
  rw [e]; exact or_bv _ _

set_option maxHeartbeats 400000 in
theorem of_ok_at (b off cap : Nat) (L : List Int) (w : World) (hc : ∀ j, j < L.length → w.cell? ⟨b, off + j, none⟩ = some (.int .i64 (L[j]?.getD 0)))
    (hm : L.length ≤ 9223372036854775807) (hall : ∀ j, j < L.length → isCat (L[j]?.getD 0) = true) :
    Calls Tryd.prog 17 #[.slice (some ⟨b, off, none⟩) L.length cap] w fun e w' => e = .returned (.tuple #[U (ofBits L), .bool true]) ∧ w = w' := by
  have HC := Lib.hid hc
  have HA := Lib.hid hall
  clear hc hall
  go_enter Tryd.func17, Tryd.ntmps17
  go_wp2
  go_loop [4, 9] (fun s i => ∃ k : Nat, k ≤ L.length ∧ i = .int .i64 k ∧ s = U (ofBits (L.take k))) (fun _ i => L.length - (intOf i).toNat)
  case atStart => exact ⟨0, Nat.zero_le _, rfl, rfl⟩
  case round =>
    obtain ⟨k, hk, rfl, rfl⟩ := hrel
    by_cases hlt : k < L.length
    · have hck := HC.out k hlt
      have hak := HA.out k hlt
      have hts := take_snoc_int L k hlt
      have hsn := ofBits_snoc (L.take k) (L[k]?.getD 0)
      rw [← hts] at hsn
      obtain ⟨c, hcv⟩ : ∃ c, L[k]?.getD 0 = c := ⟨_, rfl⟩
      rw [hcv] at hck hak hsn
      obtain ⟨s, hsv⟩ : ∃ s, ofBits (L.take k) = s := ⟨_, rfl⟩
      rw [hsv] at hsn
      rw [hsv]
      have HS := Lib.hid hsn
      clear hcv hsv hsn hts
      have hc0 : 0 ≤ c := by simp [isCat] at hak; omega
      have hc1 : c < 64 := by simp [isCat] at hak; omega
      clear hak
      unfold U
      go_wp2_with (go_at_call 49; refine (there_in _ _ (by omega) (by omega)).mono ?_; rintro e w' ⟨rfl, rfl⟩)
      go_round
      case rel => exact ⟨k + 1, by omega, by go_num, by rw [HS.out, shl_or_bv]⟩
      case measure => simp [intOf]; omega
    · have hkl : k = L.length := by omega
      subst hkl
      rw [List.take_length]
      go_wp2
      go_ret2
      exact ⟨rfl, rfl⟩

theorem of_none (a : Option Addr) (cap : Nat) (w : World) : Calls Tryd.prog 17 #[.slice a 0 cap] w fun e w' => e = .returned (.tuple #[U 0#64, .bool true]) ∧ w = w' := by
  go_enter Tryd.func17, Tryd.ntmps17
  go_wp2
  go_loop [4, 9] (fun s i => i = .int .i64 0 ∧ s = U 0#64) (fun _ _ => 0)
  case atStart => exact ⟨rfl, rfl⟩
  case round =>
    obtain ⟨rfl, rfl⟩ := hrel
    go_wp2
    go_ret2
    exact ⟨rfl, rfl⟩

/-- One is no category: (0, false). -/
theorem of_bad_at (b off cap : Nat) (L : List Int) (w : World) (hc : ∀ j, j < L.length → w.cell? ⟨b, off + j, none⟩ = some (.int .i64 (L[j]?.getD 0)))
    (hm : L.length ≤ 9223372036854775807) (m : Nat) (hml : m < L.length) (hbad : isCat (L[m]?.getD 0) = false) (hall : ∀ j, j < m → isCat (L[j]?.getD 0) = true) :
    Calls Tryd.prog 17 #[.slice (some ⟨b, off, none⟩) L.length cap] w fun e w' => e = .returned (.tuple #[U 0#64, .bool false]) ∧ w = w' := by
  have HC := Lib.hid hc
  have HA := Lib.hid hall
  have HB := Lib.hid hbad
  clear hc hall hbad
  go_enter Tryd.func17, Tryd.ntmps17
  go_wp2
  go_loop [4, 9] (fun s i => ∃ k : Nat, k ≤ m ∧ i = .int .i64 k ∧ ∃ x : BitVec 64, s = U x) (fun _ i => L.length - (intOf i).toNat)
  case atStart => exact ⟨0, Nat.zero_le _, rfl, 0#64, rfl⟩
  case round =>
    obtain ⟨k, hk, rfl, s, rfl⟩ := hrel
    have hlt : k < L.length := by omega
    have hck := HC.out k hlt
    by_cases hkm : k < m
    · have hak := HA.out k hkm
      obtain ⟨c, hcv⟩ : ∃ c, L[k]?.getD 0 = c := ⟨_, rfl⟩
      rw [hcv] at hck hak
      clear hcv
      have hc0 : 0 ≤ c := by simp [isCat] at hak; omega
      have hc1 : c < 64 := by simp [isCat] at hak; omega
      clear hak
      unfold U
      go_wp2_with (go_at_call 49; refine (there_in _ _ (by omega) (by omega)).mono ?_; rintro e w' ⟨rfl, rfl⟩)
      go_round
      case rel => exact ⟨k + 1, by omega, by go_num, _, by rw [shl_or_bv]⟩
      case measure => simp [intOf]; omega
    · have hkm' : k = m := by omega
      subst hkm'
      have hak := HB.out
      obtain ⟨c, hcv⟩ : ∃ c, L[k]?.getD 0 = c := ⟨_, rfl⟩
      rw [hcv] at hck hak
      clear hcv
      have hcc : c < 0 ∨ 64 ≤ c := by
        simp only [isCat, Bool.and_eq_false_iff, decide_eq_false_iff_not] at hak; omega
      have HCC := Lib.hid hcc
      clear hak hcc
      unfold U
      go_wp2_with (go_at_call 49; refine (there_no _ _ HCC.out).mono ?_; rintro e w' ⟨rfl, rfl⟩)
      go_ret2
      exact ⟨rfl, rfl⟩

/-- What set.Of answers. -/
def ofRes (L : List Int) : Value := if L.all isCat then .tuple #[U (ofBits L), .bool true] else .tuple #[U 0#64, .bool false]

theorem first_bad (L : List Int) (h : ¬ L.all isCat = true) : ∃ m, m < L.length ∧ isCat (L[m]?.getD 0) = false ∧ ∀ j, j < m → isCat (L[j]?.getD 0) = true := by
  induction L with
  | nil => simp at h
  | cons c L ih =>
    by_cases hc : isCat c = true
    · obtain ⟨m, h1, h2, h3⟩ := ih (by simpa [hc] using h)
      refine ⟨m + 1, by simpa using h1, by simpa using h2, fun j hj => ?_⟩
      cases j with
      | zero => simpa using hc
      | succ j => simpa using h3 j (by omega)
    · exact ⟨0, by simp, by simpa using hc, fun j hj => by omega⟩

/-- **set.Of** -/
theorem of_any (v : Value) (L : List Int) (w : World) (hv : IntsAt w v L) (hm : L.length ≤ 9223372036854775807) :
    Calls Tryd.prog 17 #[v] w fun e w' => e = .returned (ofRes L) ∧ w = w' := by
  rcases hv with ⟨rfl, a, cap, rfl⟩ | ⟨b, off, cap, rfl, hc⟩
  · exact of_none a cap w
  · by_cases h : L.all isCat = true
    · rw [ofRes, if_pos h]
      refine of_ok_at b off cap L w hc hm (fun j hj => ?_)
      rw [List.all_eq_true] at h
      exact h _ (by simp [hj])
    · rw [ofRes, if_neg h]
      obtain ⟨m, h1, h2, h3⟩ := first_bad L h
      exact of_bad_at b off cap L w hc hm m h1 h2 h3
end Go.Proofs.YtegjlgdbipfpaaaDoor
