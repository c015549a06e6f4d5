/-
  The reference's Show.
-/
import Derived.Test.YtegjlgdbipfpaaaGreatDoorRefH
namespace Go.Proofs.YtegjlgdbipfpaaaGreatDoor
open Go Go.RowKit

theorem dec2_len (n : Nat) : (dec2 n).length ≤ 2 := by unfold dec2; split <;> simp
theorem ref_decimal_any (n : Nat) (h : n < 64) (w : World) : Calls Tryz.prog 57 #[.int .i64 n] w fun e w' => e = .returned (Str (dec2 n)) ∧ Below w.heap.size w w' := by
  by_cases h1 : n < 10
  · exact ref_decimal n h1 w
  · have := ref_decimal2 (n / 10) (n % 10) (by omega) (by omega) (by omega) w
    rw [show 10 * (n / 10) + n % 10 = n by omega] at this
    exact this
theorem toInts_nth (L : List Nat) (j : Nat) : (toInts L)[j]?.getD 0 = ((nth L j : Nat) : Int) := by
  unfold toInts nth
  rw [List.getElem?_map]
  cases L[j]? <;> rfl
theorem nth_lt (s : BitVec 64) (j : Nat) : nth (cats s) j < 64 := by
  unfold nth
  cases h : (cats s)[j]? with
  | none => simp
  | some x => exact cats_lt (List.mem_of_getElem? h)
theorem ref_show_zero (w : World) : Calls Tryz.prog 42 #[U 0#64] w fun e w' => e = .returned (Str (showL 0#64)) ∧ Below w.heap.size w w' := by
  have HL := Lib.hid (ref_list 0#64 w)
  rw [cats_zero] at HL
  unfold U at HL ⊢
  go_enter Tryz.func42, Tryz.ntmps42
  go_wp2_with fail
  refine HL.out.mono ?_
  rintro e w1 ⟨v, rfl, hv, hB⟩
  rcases hv with ⟨_, a, cap, rfl⟩ | ⟨b, off, cap, rfl, _⟩
  all_goals
    go_wp2
    go_ret
    exact ⟨rfl, hB⟩

theorem join_len2 (L : List Nat) (k : Nat) (hn : L.length ≤ 64) (h : ∀ c ∈ L, c < 64) : (joinT (spansOf (L.take k))).length ≤ 384 := by
  have h1 := join_len ((spansOf (L.take k)).map spanText) (fun x hx => by
    obtain ⟨p, hp, rfl⟩ := List.mem_map.1 hx
    have := mem_spansOf _ _ hp
    exact spanText_len p (h _ (List.mem_of_mem_take this.1)) (h _ (List.mem_of_mem_take this.2)))
  rw [List.length_map] at h1
  have h2 := spansOf_length (L.take k)
  rw [List.length_take] at h2
  unfold joinT
  omega

theorem run_val (L : List Nat) (k m : Nat) (h : k ≤ m) (hr : ∀ j, k ≤ j → j < m → nth L (j + 1) = nth L j + 1) : nth L m = nth L k + (m - k) := by
  obtain ⟨d, rfl⟩ : ∃ d, m = k + d := ⟨m - k, by omega⟩
  induction d with
  | zero => simp
  | succ d ih =>
    have := ih (by omega) (fun j h1 h2 => hr j h1 (by omega))
    have h2 := hr (k + d) (by omega) (by omega)
    rw [show k + (d + 1) = k + d + 1 by omega, h2, this]
    omega
theorem new_text (L : List Nat) (k m : Nat) (hb : Broke L k) (hkm : k ≤ m) (hm : m < L.length) (hr : ∀ j, k ≤ j → j < m → nth L (j + 1) = nth L j + 1) (hlt : ∀ j, nth L j < 64) :
    joinT (spansOf (L.take (m + 1))) = (if k = 0 then [] else joinT (spansOf (L.take k)) ++ [44]) ++ (dec2 (nth L k) ++ (if m = k then [] else [45] ++ dec2 (nth L m))) := by
  have h1 := hlt k
  have h2 := hlt m
  have ht : spanText (nth L k, nth L m) = dec2 (nth L k) ++ (if m = k then [] else [45] ++ dec2 (nth L m)) := by
    rw [spanText_eq _ _ (by omega) (by omega), text2]
    by_cases e : m = k
    · subst e; simp
    · have := run_val L k m hkm hr
      rw [if_neg (show ¬ nth L k = nth L m by omega), if_neg e, List.append_assoc]
  rw [span_run L k hb m hkm hm hr]
  by_cases hk : k = 0
  · subst hk
    have : spansOf (L.take 0) = [] := rfl
    rw [this, List.nil_append, joinT_one, ht]
    simp
  · have hne : spansOf (L.take k) ≠ [] := spansOf_ne (fun e => by
      have := congrArg List.length e
      rw [List.length_take, List.length_nil] at this
      omega)
    rw [joinT_snoc _ _ hne, ht, if_neg hk]

theorem out_a {T o a d : List UInt8} {k m : Nat} (h : T = (if k = 0 then [] else o ++ [44]) ++ (a ++ (if m = k then [] else [45] ++ d))) (ho : o = []) (hk : k = 0) (hm : m = k) :
    Value.string (ByteArray.mk o.toArray ++ ByteArray.mk a.toArray) = Str T := by
  rw [h, if_pos hk, if_pos hm, ho, ByteArray.mk_append_mk]; simp
theorem out_b {T o a d : List UInt8} {k m : Nat} (h : T = (if k = 0 then [] else o ++ [44]) ++ (a ++ (if m = k then [] else [45] ++ d))) (hk : ¬ k = 0) (hm : m = k) :
    Value.string (ByteArray.mk o.toArray ++ ByteArray.mk #[44] ++ ByteArray.mk a.toArray) = Str T := by
  rw [h, if_neg hk, if_pos hm, show (#[44] : Array UInt8) = [44].toArray from rfl, ByteArray.mk_append_mk, ByteArray.mk_append_mk]; simp
theorem out_c {T o a d : List UInt8} {k m : Nat} (h : T = (if k = 0 then [] else o ++ [44]) ++ (a ++ (if m = k then [] else [45] ++ d))) (ho : o = []) (hk : k = 0) (hm : ¬ m = k) :
    Value.string (ByteArray.mk o.toArray ++ ByteArray.mk a.toArray ++ (ByteArray.mk #[45] ++ ByteArray.mk d.toArray)) = Str T := by
  rw [h, if_pos hk, if_neg hm, ho, show (#[45] : Array UInt8) = [45].toArray from rfl, ByteArray.mk_append_mk, ByteArray.mk_append_mk, ByteArray.mk_append_mk]; simp
theorem out_d {T o a d : List UInt8} {k m : Nat} (h : T = (if k = 0 then [] else o ++ [44]) ++ (a ++ (if m = k then [] else [45] ++ d))) (hk : ¬ k = 0) (hm : ¬ m = k) :
    Value.string (ByteArray.mk o.toArray ++ ByteArray.mk #[44] ++ ByteArray.mk a.toArray ++ (ByteArray.mk #[45] ++ ByteArray.mk d.toArray)) = Str T := by
  rw [h, if_neg hk, if_neg hm, show (#[44] : Array UInt8) = [44].toArray from rfl, show (#[45] : Array UInt8) = [45].toArray from rfl, ByteArray.mk_append_mk, ByteArray.mk_append_mk, ByteArray.mk_append_mk, ByteArray.mk_append_mk]; simp

set_option maxRecDepth 100000 in
set_option maxHeartbeats 8000000 in
theorem ref_show_some (s : BitVec 64) (hs : s ≠ 0#64) (w : World) :
    Calls Tryz.prog 42 #[U s] w fun e w' => e = .returned (Str (showL s)) ∧ Below w.heap.size w w' := by
  have HL := Lib.hid (ref_list s w)
  have hlen := cats_length s
  have hpos : 0 < (cats s).length := List.length_pos_iff.2 (fun e => hs (cats_eq_nil.1 e))
  have hlt : ∀ j, nth (cats s) j < 64 := nth_lt s
  have hjl := fun k => join_len2 (cats s) k hlen (fun c hc => cats_lt hc)
  have hend : showL s = joinT (spansOf (cats s)) := by rw [showL, if_neg hs]; rfl
  rw [hend]
  obtain ⟨L, hL⟩ : ∃ L, cats s = L := ⟨_, rfl⟩
  rw [hL] at hlen hpos HL hlt hjl ⊢
  obtain ⟨n, hn⟩ : ∃ n, L.length = n := ⟨_, rfl⟩
  rw [hn] at hlen hpos
  have HN := Lib.hid hn
  have HLT := Lib.hid hlt
  have HJL := Lib.hid hjl
  clear hs hL hend hlt hjl
  unfold U at HL ⊢
  go_enter Tryz.func42, Tryz.ntmps42
  go_wp2_with fail
  refine HL.out.mono ?_
  rintro e w1 ⟨v, rfl, hv, hB⟩
  have hz1 : ((n : Int) == 0) = false := by rw [beq_eq_false_iff_ne]; omega
  have hz2 : (n == 0) = false := by rw [beq_eq_false_iff_ne]; omega
  rcases hv with ⟨h0, _⟩ | ⟨b, off, cap, rfl, hc⟩
  · exact absurd hpos (by rw [← hn]; unfold toInts at h0; rw [List.map_eq_nil_iff.1 h0]; simp)
  have hll : (toInts L).length = n := by rw [← hn]; simp [toInts]
  rw [hll] at hc ⊢
  simp only [toInts_nth] at hc
  have HC := Lib.hid hc
  have HBL := Lib.hid (World.block_lt_of_cell? w1 _ (hc 0 hpos))
  clear hc hn hll
  go_wp2_with fail
  go_loopw [4, 5] (fun o i wr => ∃ k : Nat, k ≤ n ∧ i = .int .i64 k ∧ o = Str (joinT (spansOf (L.take k))) ∧ Hid (Broke L k) ∧ Below w1.heap.size w1 wr) (fun _ i _ => n - (intOf i).toNat)
  case atStart => exact ⟨0, Nat.zero_le _, rfl, rfl, broke_zero L, Below.refl _ _⟩
  case round =>
    obtain ⟨k, hk, rfl, rfl, hbr, hBr⟩ := hrel
    by_cases hlt : k < n
    · go_wp2_with fail
      go_loopw [6] (fun q wr' => ∃ m : Nat, k ≤ m ∧ m < n ∧ q = .int .i64 m ∧ Hid (∀ j, k ≤ j → j < m → nth L (j + 1) = nth L j + 1) ∧ Below w1.heap.size w1 wr') (fun q _ => n - (intOf q).toNat)
      case atStart => exact ⟨k, Nat.le_refl _, hlt, rfl, Lib.hid (fun j h1 h2 => by omega), hBr⟩
      case round =>
        obtain ⟨m, hkm, hmn, rfl, hrun, hB2⟩ := hrel
        have x2 := (hB2.cell (p := ⟨b, off + m, none⟩) HBL.out).trans (HC.out m hmn)
        by_cases hcont : m + 1 < n ∧ nth L (m + 1) = nth L m + 1
        · obtain ⟨hm1, he⟩ := hcont
          have hd1 : decide ((m : Int) + 1 < (n : Int)) = true := by rw [decide_eq_true_iff]; omega
          have hd2 : decide (m + 1 < n) = true := by rw [decide_eq_true_iff]; omega
          have hd3 : (m : Int) + 1 < (n : Int) := by omega
          have x1 := (hB2.cell (p := ⟨b, off + (m + 1), none⟩) HBL.out).trans (HC.out (m + 1) hm1)
          have hl1 := HLT.out m
          have hrun' : Hid (∀ j, k ≤ j → j < m + 1 → nth L (j + 1) = nth L j + 1) := Lib.hid (fun j h1 h2 => by
            by_cases e : j = m
            · subst e; exact he
            · exact hrun.out j h1 (by omega))
          rw [he] at x1
          obtain ⟨y2, hy2⟩ : ∃ y, nth L m = y := ⟨_, rfl⟩
          rw [hy2] at x2 hl1 x1
          have hq : (((y2 + 1 : Nat) : Int) == (y2 : Int) + 1) = true := by rw [beq_iff_eq]; omega
          clear he hy2
          go_wp2
          go_quiet (fail)
          go_wp2
          go_roundw
          case rel => exact ⟨m + 1, by omega, by omega, by go_num, hrun', below_drewN hB2 _⟩
          case measure => simp [intOf]; omega
        · have hstop : m + 1 < n → nth L (m + 1) ≠ nth L m + 1 := fun h1 h2 => hcont ⟨h1, h2⟩
          have HNB := Lib.hid (broke_next L k m hbr.out hkm (by rw [HN.out]; exact hmn) hrun.out (by rw [HN.out]; exact hstop))
          have HNT := Lib.hid (new_text L k m hbr.out hkm (by rw [HN.out]; exact hmn) hrun.out HLT.out)
          have x3 := (hB2.cell (p := ⟨b, off + k, none⟩) HBL.out).trans (HC.out k hlt)
          have hl3 := HLT.out k
          have hl2 := HLT.out m
          have ho := HJL.out k
          have hoz : ¬ 0 < k → joinT (spansOf (L.take k)) = [] := fun h => by
            obtain rfl : k = 0 := by omega
            exact joinT_nil
          obtain ⟨o, hoe⟩ : ∃ o, joinT (spansOf (L.take k)) = o := ⟨_, rfl⟩
          obtain ⟨y3, hy3⟩ : ∃ y, nth L k = y := ⟨_, rfl⟩
          obtain ⟨y2, hy2⟩ : ∃ y, nth L m = y := ⟨_, rfl⟩
          rw [hoe] at ho HNT hoz ⊢
          have HOZ := Lib.hid hoz
          clear hoz
          rw [hy3] at x3 hl3 HNT
          rw [hy2] at x2 hl2 HNT hstop
          have HY2 := Lib.hid hy2
          have hdl3 := dec2_len y3
          have hdl2 := dec2_len y2
          have HD3 := Lib.hid (fun W => ref_decimal_any y3 hl3 W)
          have HD2 := Lib.hid (fun W => ref_decimal_any y2 hl2 W)
          have hfork : (∃ y1, m + 1 < n ∧ y1 ≠ y2 + 1 ∧ nth L (m + 1) = y1) ∨ ¬ m + 1 < n := by
            by_cases h : m + 1 < n
            · exact .inl ⟨_, h, hstop h, rfl⟩
            · exact .inr h
          have hk01 : ¬ 0 < k ∨ 0 < k := (Nat.lt_or_ge 0 k).symm.imp (fun h => by omega) id
          have hmk : ¬ k < m ∨ k < m := (Nat.lt_or_ge k m).symm.imp (fun h => by omega) id
          clear hcont hstop hy3 hy2 hoe hbr
          rcases hfork with ⟨y1, hm1, hne, hy1⟩ | hm1
          · have hd1 : decide ((m : Int) + 1 < (n : Int)) = true := by rw [decide_eq_true_iff]; omega
            have hd2 : decide (m + 1 < n) = true := by rw [decide_eq_true_iff]; omega
            have hd3 : (m : Int) + 1 < (n : Int) := by omega
            have x1 := (hB2.cell (p := ⟨b, off + (m + 1), none⟩) HBL.out).trans (HC.out (m + 1) hm1)
            have hl1 := HLT.out (m + 1)
            rw [hy1] at x1 hl1
            have hq : ((y1 : Int) == (y2 : Int) + 1) = false := by rw [beq_eq_false_iff_ne]; omega
            clear hy1 hne
            rcases hk01 with hk0 | hk0
            all_goals
              rcases hmk with hmk | hmk
              · go_wp2
                go_quiet (fail)
                go_wp2_with fail
                refine (HD3.out _).mono ?_
                rintro e w3 ⟨rfl, hb3⟩
                have hB3 := (below_drewN hB2 nq).trans (hb3.mono (below_drewN hB2 nq).size)
                clear hb3
                go_wp2_with fail
                go_roundw
                case rel =>
                  refine ⟨m + 1, by omega, by go_num, ?_, HNB, hB3⟩
                  first
                    | exact out_a HNT.out (HOZ.out hk0) (by omega) (by omega)
                    | exact out_b HNT.out (by omega) (by omega)
                case measure => simp [intOf]; omega
              · go_wp2
                go_quiet (fail)
                go_wp2_with fail
                refine (HD3.out _).mono ?_
                rintro e w3 ⟨rfl, hb3⟩
                have hB3 := (below_drewN hB2 nq).trans (hb3.mono (below_drewN hB2 nq).size)
                clear hb3
                have x4 := (hB3.cell (p := ⟨b, off + m, none⟩) HBL.out).trans (HC.out m hmn)
                rw [HY2.out] at x4
                go_wp2_with fail
                refine (HD2.out _).mono ?_
                rintro e w4 ⟨rfl, hb4⟩
                have hB4 := hB3.trans (hb4.mono hB3.size)
                clear hb4
                go_wp2_with fail
                go_roundw
                case rel =>
                  refine ⟨m + 1, by omega, by go_num, ?_, HNB, hB4⟩
                  first
                    | exact out_c HNT.out (HOZ.out hk0) (by omega) (by omega)
                    | exact out_d HNT.out (by omega) (by omega)
                case measure => simp [intOf]; omega
          · have hd1 : decide ((m : Int) + 1 < (n : Int)) = false := by rw [decide_eq_false_iff_not]; omega
            have hd2 : decide (m + 1 < n) = false := by rw [decide_eq_false_iff_not]; omega
            have hd3 : ¬ (m : Int) + 1 < (n : Int) := by omega
            rcases hk01 with hk0 | hk0
            all_goals
              rcases hmk with hmk | hmk
              · go_wp2
                go_quiet (fail)
                go_wp2_with fail
                refine (HD3.out _).mono ?_
                rintro e w3 ⟨rfl, hb3⟩
                have hB3 := (below_drewN hB2 nq).trans (hb3.mono (below_drewN hB2 nq).size)
                clear hb3
                go_wp2_with fail
                go_roundw
                case rel =>
                  refine ⟨m + 1, by omega, by go_num, ?_, HNB, hB3⟩
                  first
                    | exact out_a HNT.out (HOZ.out hk0) (by omega) (by omega)
                    | exact out_b HNT.out (by omega) (by omega)
                case measure => simp [intOf]; omega
              · go_wp2
                go_quiet (fail)
                go_wp2_with fail
                refine (HD3.out _).mono ?_
                rintro e w3 ⟨rfl, hb3⟩
                have hB3 := (below_drewN hB2 nq).trans (hb3.mono (below_drewN hB2 nq).size)
                clear hb3
                have x4 := (hB3.cell (p := ⟨b, off + m, none⟩) HBL.out).trans (HC.out m hmn)
                rw [HY2.out] at x4
                go_wp2_with fail
                refine (HD2.out _).mono ?_
                rintro e w4 ⟨rfl, hb4⟩
                have hB4 := hB3.trans (hb4.mono hB3.size)
                clear hb4
                go_wp2_with fail
                go_roundw
                case rel =>
                  refine ⟨m + 1, by omega, by go_num, ?_, HNB, hB4⟩
                  first
                    | exact out_c HNT.out (HOZ.out hk0) (by omega) (by omega)
                    | exact out_d HNT.out (by omega) (by omega)
                case measure => simp [intOf]; omega
    · obtain rfl : k = n := by omega
      have ht : Hid (L.take k = L) := Lib.hid (by rw [← HN.out]; exact List.take_length)
      go_wp2
      go_ret
      exact ⟨congrArg (fun l => Ending.returned (Str (joinT (spansOf l)))) ht.out, hB.trans (hBr.mono hB.size)⟩

/-- **The reference's Show** is the text. -/
theorem ref_show (s : BitVec 64) (w : World) : Calls Tryz.prog 42 #[U s] w fun e w' => e = .returned (Str (showL s)) ∧ Below w.heap.size w w' := by
  by_cases hs : s = 0#64
  · subst hs; exact ref_show_zero w
  · exact ref_show_some s hs w
end Go.Proofs.YtegjlgdbipfpaaaGreatDoor
