/-
  concordatref00.SameInts and CopyInts.
-/
import Derived.Test.YtegjlgdbipfpaaaDoorPlain
namespace Go.Proofs.YtegjlgdbipfpaaaDoor
open Go Go.RowKit

theorem same_differ (a1 a2 : Option Addr) (n1 n2 c1 c2 : Nat) (w : World) (h : n1 ≠ n2) :
    Calls Tryd.prog 21 #[.slice a1 n1 c1, .slice a2 n2 c2] w fun e w' => e = .returned (.bool false) ∧ w = w' := by
  have hb : ((n1 : Int) != (n2 : Int)) = true := by rw [bne_iff_ne]; omega
  have hb2 : (n1 != n2) = true := by rw [bne_iff_ne]; omega
  clear h
  go_enter Tryd.func21, Tryd.ntmps21
  go_wp2
  go_ret
  exact ⟨rfl, rfl⟩
theorem same_zero (a1 a2 : Option Addr) (c1 c2 : Nat) (w : World) :
    Calls Tryd.prog 21 #[.slice a1 0 c1, .slice a2 0 c2] w fun e w' => e = .returned (.bool true) ∧ w = w' := by
  go_enter Tryd.func21, Tryd.ntmps21
  go_wp2
  go_loop [5] (fun i => i = .int .i64 0) (fun _ => 0)
  case atStart => rfl
  case round =>
    subst hrel
    go_wp2
    go_ret
    exact ⟨rfl, rfl⟩

set_option maxHeartbeats 1000000 in
theorem same_at (b1 o1 c1 b2 o2 c2 : Nat) (L1 L2 : List Int) (w : World) (hlen : L2.length = L1.length) (hm : L1.length ≤ 9223372036854775806)
    (h1 : ∀ j, j < L1.length → w.cell? ⟨b1, o1 + j, none⟩ = some (.int .i64 (L1[j]?.getD 0))) (h2 : ∀ j, j < L1.length → w.cell? ⟨b2, o2 + j, none⟩ = some (.int .i64 (L2[j]?.getD 0))) :
    Calls Tryd.prog 21 #[.slice (some ⟨b1, o1, none⟩) L1.length c1, .slice (some ⟨b2, o2, none⟩) L1.length c2] w fun e w' => e = .returned (.bool (decide (L1 = L2))) ∧ Below w.heap.size w w' := by
  obtain ⟨n, hn⟩ : ∃ n, L1.length = n := ⟨_, rfl⟩
  have hlt1 : ∀ j, j < n → b1 < w.heap.size := fun j hj => World.block_lt_of_cell? w _ (h1 j (by omega))
  have hlt2 : ∀ j, j < n → b2 < w.heap.size := fun j hj => World.block_lt_of_cell? w _ (h2 j (by omega))
  rw [hn] at hm h1 h2 hlen ⊢
  have H1 := Lib.hid h1
  have H2 := Lib.hid h2
  have HL1 := Lib.hid hlt1
  have HL2 := Lib.hid hlt2
  have HN := Lib.hid hn
  have HM := Lib.hid hlen
  clear h1 h2 hlt1 hlt2 hn hlen
  have key : ∀ r : Bool, decide (L1 = L2) = r → Calls Tryd.prog 21 #[.slice (some ⟨b1, o1, none⟩) n c1, .slice (some ⟨b2, o2, none⟩) n c2] w fun e w' => e = .returned (.bool r) ∧ Below w.heap.size w w' := by
    intro r hr
    have HR := Lib.hid hr
    clear hr
    have hb : ((n : Int) != (n : Int)) = false := by simp
    go_enter Tryd.func21, Tryd.ntmps21
    go_wp2
    go_loopw [5] (fun i wr => ∃ k : Nat, k ≤ n ∧ i = .int .i64 k ∧ Hid (L1.take k = L2.take k) ∧ Below w.heap.size w wr) (fun i _ => n - (intOf i).toNat)
    case atStart => exact ⟨0, Nat.zero_le _, rfl, rfl, Below.refl _ _⟩
    case round =>
      obtain ⟨k, hk, rfl, hT, hB⟩ := hrel
      by_cases hlt : k < n
      · have x1 := (hB.cell (p := ⟨b1, o1 + k, none⟩) (HL1.out k hlt)).trans (H1.out k hlt)
        have x2 := (hB.cell (p := ⟨b2, o2 + k, none⟩) (HL2.out k hlt)).trans (H2.out k hlt)
        have ht1 : L1.take (k + 1) = L1.take k ++ [L1[k]?.getD 0] := take_snoc_int L1 k (by rw [HN.out]; exact hlt)
        have ht2 : L2.take (k + 1) = L2.take k ++ [L2[k]?.getD 0] := take_snoc_int L2 k (by rw [HM.out]; exact hlt)
        obtain ⟨y1, hy1⟩ : ∃ y, L1[k]?.getD 0 = y := ⟨_, rfl⟩
        obtain ⟨y2, hy2⟩ : ∃ y, L2[k]?.getD 0 = y := ⟨_, rfl⟩
        rw [hy1] at x1 ht1
        rw [hy2] at x2 ht2
        have HT1 := Lib.hid ht1
        have HT2 := Lib.hid ht2
        clear ht1 ht2 hy1 hy2
        by_cases he : y1 = y2
        · have hne : (y1 != y2) = false := by rw [bne_eq_false_iff_eq]; exact he
          have HE : Hid (L1.take (k + 1) = L2.take (k + 1)) := by show L1.take (k + 1) = L2.take (k + 1); rw [HT1.out, HT2.out, hT.out, he]
          clear he
          go_wp2
          go_quiet (fail)
          go_wp2
          go_roundw
          case rel => exact ⟨k + 1, by omega, by go_num, HE, below_drewN hB _⟩
          case measure => simp [intOf]; omega
        · have hne : (y1 != y2) = true := by rw [bne_iff_ne]; exact he
          have HE : Hid (decide (L1 = L2) = false) := by
            show decide (L1 = L2) = false
            rw [decide_eq_false_iff_not]
            intro e
            have h1 := HT1.out
            rw [e, HT2.out] at h1
            have h3 := List.append_inj_right' h1 rfl
            simp at h3
            exact he h3.symm
          clear he
          go_wp2
          go_quiet (fail)
          go_wp2
          go_ret
          exact ⟨congrArg (fun b => Ending.returned (.bool b)) (HE.out.symm.trans HR.out), below_drewN hB _⟩
      · have hkn : k = n := by omega
        subst hkn
        have HE : Hid (decide (L1 = L2) = true) := by
          show decide (L1 = L2) = true
          rw [decide_eq_true_iff]
          have := hT.out
          rw [← HN.out, List.take_length, HN.out, ← HM.out, List.take_length] at this
          exact this
        go_wp2
        go_ret
        exact ⟨congrArg (fun b => Ending.returned (.bool b)) (HE.out.symm.trans HR.out), hB⟩
  exact key _ rfl

theorem IntsAt.shape {w : World} {v : Value} {L : List Int} (h : IntsAt w v L) : ∃ a cap, v = .slice a L.length cap := by
  rcases h with ⟨rfl, a, cap, rfl⟩ | ⟨b, off, cap, rfl, _⟩
  · exact ⟨a, cap, rfl⟩
  · exact ⟨_, cap, rfl⟩
/-- **use.SameInts** -/
theorem same_any (v1 v2 : Value) (L1 L2 : List Int) (w : World) (h1 : IntsAt w v1 L1) (h2 : IntsAt w v2 L2) (hm : L1.length ≤ 9223372036854775806) :
    Calls Tryd.prog 21 #[v1, v2] w fun e w' => e = .returned (.bool (decide (L1 = L2))) ∧ Below w.heap.size w w' := by
  by_cases hl : L1.length = L2.length
  · by_cases hz : L1.length = 0
    · have e1 : L1 = [] := List.length_eq_zero_iff.1 hz
      have e2 : L2 = [] := List.length_eq_zero_iff.1 (by omega)
      obtain ⟨a1, c1, rfl⟩ := h1.shape
      obtain ⟨a2, c2, rfl⟩ := h2.shape
      subst e1 e2
      exact (same_zero a1 a2 c1 c2 w).mono fun e w' ⟨he, hw⟩ => ⟨he, hw ▸ Below.refl _ _⟩
    · rcases h1 with ⟨rfl, _⟩ | ⟨b1, o1, c1, rfl, k1⟩
      · simp at hz
      · rcases h2 with ⟨rfl, _⟩ | ⟨b2, o2, c2, rfl, k2⟩
        · simp at hl; exact absurd hl (fun e => hz (by simp [e]))
        · rw [← hl] at k2 ⊢
          exact same_at b1 o1 c1 b2 o2 c2 L1 L2 w hl.symm hm k1 k2
  · obtain ⟨a1, c1, rfl⟩ := h1.shape
    obtain ⟨a2, c2, rfl⟩ := h2.shape
    have : decide (L1 = L2) = false := by rw [decide_eq_false_iff_not]; rintro rfl; exact hl rfl
    rw [this]
    exact (same_differ a1 a2 _ _ c1 c2 w hl).mono fun e w' ⟨he, hw⟩ => ⟨he, hw ▸ Below.refl _ _⟩
end Go.Proofs.YtegjlgdbipfpaaaDoor
