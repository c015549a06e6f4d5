/-
  concordatlaw06.SetAnswers returns true: its walk.
-/
import Derived.Test.YtegjlgdbipfpaaaDoorCopy
namespace Go.Proofs.YtegjlgdbipfpaaaDoor
open Go Go.RowKit

theorem readPost_one (t : List UInt8) : ∃ (s : BitVec 64) (f : Bool), ∀ e, readPost t e → e = .returned (.tuple #[U s, .bool f]) := by
  by_cases h : ∃ s, showL s = t
  · obtain ⟨s, hs⟩ := h
    refine ⟨s, true, fun e he => ?_⟩
    rcases he with ⟨s', h1, h2⟩ | ⟨h1, _⟩
    · rw [h2, show_inj (h1.trans hs.symm)]
    · exact absurd hs (h1 s)
  · refine ⟨0#64, false, fun e he => ?_⟩
    rcases he with ⟨s', h1, h2⟩ | ⟨h1, h2⟩
    · exact absurd ⟨s', h1⟩ h
    · exact h2
theorem ofRes_two (L : List Int) : ∃ (s : BitVec 64) (f : Bool), ofRes L = .tuple #[U s, .bool f] := by
  unfold ofRes
  split
  · exact ⟨_, _, rfl⟩
  · exact ⟨_, _, rfl⟩

theorem answers_long (a b : BitVec 64) (c : Int) (t : List UInt8) (p : Option Addr) (n cap : Nat) (w : World) (hg : gTop ≤ w.heap.size) (hl : Laid w) (ht : t.length ≤ 9223372036854775807) (h : 200 < n ∨ 400 < t.length) :
    Calls Tryd.prog 3 #[.slice p n cap, U a, U b, .int .i64 c, Str t] w fun e w' => e = .returned (.bool true) ∧ Below w.heap.size w w' := by
  have HAL := Lib.hid (alive_any w hg hl)
  clear hl
  go_enter Tryd.func3, Tryd.ntmps3
  go_wp2_with fail
  refine HAL.out.mono ?_
  rintro e w1 ⟨rfl, hB⟩
  by_cases h1 : 200 < n
  · have h1' : (200 : Int) < (n : Int) := by omega
    go_wp2
    go_ret
    exact ⟨rfl, hB⟩
  · have h1' : ¬ (200 : Int) < (n : Int) := by omega
    have h2 : 400 < t.length := by omega
    have h2' : (400 : Int) < (t.length : Int) := by omega
    go_wp2
    go_ret
    exact ⟨rfl, hB⟩

set_option maxRecDepth 100000 in
set_option maxHeartbeats 4000000 in
theorem answers_short (a b : BitVec 64) (c : Int) (t : List UInt8) (v : Value) (L : List Int) (w : World) (hg : gTop ≤ w.heap.size) (hl : Laid w) (hv : IntsAt w v L)
    (hn : L.length ≤ 200) (ht : t.length ≤ 400) :
    Calls Tryd.prog 3 #[v, U a, U b, .int .i64 c, Str t] w fun e w' => e = .returned (.bool true) ∧ Below w.heap.size w w' := by
  have HAL := Lib.hid (alive_any w hg hl)
  have HL := Lib.hid hl
  have HV := Lib.hid hv
  obtain ⟨p, cap, hvs⟩ := hv.shape
  obtain ⟨s, ok, hs⟩ := ofRes_two L
  obtain ⟨u, has, hu⟩ := readPost_one t
  have HS := Lib.hid hs
  have HU := Lib.hid hu
  have HVS := Lib.hid hvs
  have hn1 : ¬ (200 : Int) < (L.length : Int) := by omega
  have hn2 : ¬ 200 < L.length := by omega
  have ht1 : ¬ (400 : Int) < (t.length : Int) := by omega
  have ht2 : ¬ 400 < t.length := by omega
  clear hl hv hs hu hvs
  rw [HVS.out]
  go_enter Tryd.func3, Tryd.ntmps3
  go_wp2_with fail
  refine HAL.out.mono ?_
  rintro e w1 ⟨rfl, hB⟩
  go_wp2_with fail
  rw [← HVS.out]
  refine (copy_any v L w1 (HV.out.below hB) hn).mono ?_
  rintro e w2 ⟨v2, rfl, hv2, hb2⟩
  have hB2 := hB.trans (hb2.mono hB.size)
  have HV2 := Lib.hid hv2
  clear hb2 hv2
  go_wp2_with fail
  have ho := of_any v2 L w2 HV2.out (by omega)
  rw [HS.out] at ho
  refine ho.mono ?_
  clear ho
  rintro e w' ⟨rfl, rfl⟩
  go_wp2_with fail
  have ho := ref_of v L w2 (HV.out.below hB2) (by omega)
  rw [HS.out] at ho
  refine ho.mono ?_
  clear ho
  rintro e w' ⟨rfl, rfl⟩
  go_wp2_with fail
  refine (read_any t (by omega) w2 (Nat.le_trans hg hB2.size) (HL.out.below hB2)).mono ?_
  rintro e w3 ⟨hb3, hr3⟩
  obtain rfl := HU.out e hr3
  have hB3 := hB2.trans (hb3.mono hB2.size)
  have HV3 := Lib.hid (HV2.out.below hb3)
  clear hb3 hr3 HV2
  go_wp2_with fail
  refine (ref_read_in t (by omega) w3).mono ?_
  rintro e w4 ⟨hr4, hb4⟩
  obtain rfl := HU.out e hr4
  have hB4 := hB3.trans (hb4.mono hB3.size)
  have HV4 := Lib.hid (HV3.out.below hb4)
  clear hb4 hr4 HV3
  go_wp2_with fail
  refine (list_ints a w4 (HL.out.below hB4) (Nat.le_trans hg hB4.size)).mono ?_
  rintro e w5 ⟨v5, rfl, hv5, hb5⟩
  have hB5 := hB4.trans (hb5.mono hB4.size)
  have HV5 := Lib.hid (HV4.out.below hb5)
  have HI5 := Lib.hid hv5
  clear hb5 hv5 HV4
  go_wp2_with fail
  refine (ref_list a w5).mono ?_
  rintro e w6 ⟨v6, rfl, hv6, hb6⟩
  have hB6 := hB5.trans (hb6.mono hB5.size)
  have HV6 := Lib.hid (HV5.out.below hb6)
  have HI6 := Lib.hid (HI5.out.below hb6)
  have HJ6 := Lib.hid hv6
  clear hb6 hv6 HV5 HI5
  have hcl := cats_length a
  have hsm := same_any v5 v6 _ _ w6 HI6.out HJ6.out (by unfold toInts; rw [List.length_map]; omega)
  rw [decide_eq_true (rfl : toInts (cats a) = toInts (cats a))] at hsm
  have HSM := Lib.hid hsm
  clear hsm hcl HI6 HJ6
  go_wp2_with fail
  refine HSM.out.mono ?_
  rintro e w7 ⟨rfl, hb7⟩
  have hB7 := hB6.trans (hb7.mono hB6.size)
  have HV7 := Lib.hid (HV6.out.below hb7)
  clear hb7 HV6 HSM
  have hh1 := has_any a c w7
  have hh2 := ref_has a c w7
  obtain ⟨f, hf⟩ : ∃ f, hasB a c = f := ⟨_, rfl⟩
  rw [hf] at hh1 hh2
  clear hf
  have HH1 := Lib.hid hh1
  have HH2 := Lib.hid hh2
  clear hh1 hh2
  go_wp2_with fail
  refine HH1.out.mono ?_
  rintro e w' ⟨rfl, rfl⟩
  go_wp2_with fail
  refine HH2.out.mono ?_
  rintro e w' ⟨rfl, rfl⟩
  clear HH1 HH2
  have hh1 : Calls Tryd.prog 26 #[U a, U b] w7 fun e w' => e = .returned (.bool (win a b)) ∧ w7 = w' := within_win a b w7
  have hh2 := ref_within a b w7
  obtain ⟨g, hgg⟩ : ∃ g, win a b = g := ⟨_, rfl⟩
  rw [hgg] at hh1 hh2
  clear hgg
  have HH1 := Lib.hid hh1
  have HH2 := Lib.hid hh2
  clear hh1 hh2
  go_wp2_with fail
  refine HH1.out.mono ?_
  rintro e w' ⟨rfl, rfl⟩
  go_wp2_with fail
  refine HH2.out.mono ?_
  rintro e w' ⟨rfl, rfl⟩
  clear HH1 HH2
  have hh1 := minus_any a b w7
  have hh2 := ref_minus a b w7
  obtain ⟨m, hm⟩ : ∃ m, a &&& ~~~b = m := ⟨_, rfl⟩
  rw [hm] at hh1 hh2
  clear hm
  have HH1 := Lib.hid hh1
  have HH2 := Lib.hid hh2
  clear hh1 hh2
  go_wp2_with fail
  refine HH1.out.mono ?_
  rintro e w' ⟨rfl, rfl⟩
  go_wp2_with fail
  refine HH2.out.mono ?_
  rintro e w' ⟨rfl, rfl⟩
  clear HH1 HH2
  have hh1 := show_any a w7 (Nat.le_trans hg hB7.size) (HL.out.below hB7)
  have hh2 := fun W => ref_show a W
  obtain ⟨T, hT⟩ : ∃ T, showL a = T := ⟨_, rfl⟩
  rw [hT] at hh1
  simp only [hT] at hh2
  clear hT
  have HH1 := Lib.hid hh1
  have HH2 := Lib.hid hh2
  clear hh1 hh2
  go_wp2_with fail
  refine HH1.out.mono ?_
  rintro e w8 ⟨rfl, hb8⟩
  have hB8 := hB7.trans (hb8.mono hB7.size)
  have HV8 := Lib.hid (HV7.out.below hb8)
  clear hb8 HV7
  go_wp2_with fail
  refine (HH2.out w8).mono ?_
  rintro e w9 ⟨rfl, hb9⟩
  have hB9 := hB8.trans (hb9.mono hB8.size)
  have HV9 := Lib.hid (HV8.out.below hb9)
  clear hb9 HV8 HH1 HH2
  have hsm := same_any v2 v _ _ w9 HV9.out (HV.out.below hB9) (by omega)
  rw [decide_eq_true (rfl : L = L)] at hsm
  have HSM := Lib.hid hsm
  clear hsm HV9
  go_wp2_with fail
  refine HSM.out.mono ?_
  rintro e w10 ⟨rfl, hb10⟩
  have hB10 := hB9.trans (hb10.mono hB9.size)
  clear hb10
  go_wp2
  go_ret
  exact ⟨rfl, hB10⟩
theorem answers_any (v : Value) (L : List Int) (a b : BitVec 64) (c : Int) (t : List UInt8) (w : World) (hg : gTop ≤ w.heap.size) (hl : Laid w) (hv : IntsAt w v L)
    (ht : t.length ≤ 9223372036854775807) :
    Calls Tryd.prog 3 #[v, U a, U b, .int .i64 c, Str t] w fun e w' => e = .returned (.bool true) ∧ Below w.heap.size w w' := by
  by_cases h : 200 < L.length ∨ 400 < t.length
  · obtain ⟨p, cap, rfl⟩ := hv.shape
    exact answers_long a b c t p _ cap w hg hl ht h
  · exact answers_short a b c t v L w hg hl hv (by omega) (by omega)
end Go.Proofs.YtegjlgdbipfpaaaDoor
