/-
  concordatlaw06.SetLists returns true: its walk.
-/
import Derived.Test.YtegjlgdbipfpaaaDoorLaw5
namespace Go.Proofs.YtegjlgdbipfpaaaDoor
open Go Go.RowKit

def intsI (L : List Int) : List Value := L.map fun x => Value.int .i64 x
theorem intsI_snoc (L : List Int) (x : Int) : intsI (L ++ [x]) = intsI L ++ [.int .i64 x] := by simp [intsI]
theorem intsAt_rowI {w : World} {base : Nat} {v : Value} {L : List Int} (h : w.ownsRow base 3 1 v L.length (intsI L)) : (v = .slice none 0 0 ∧ L = []) ∨ ∃ g cap, v = .slice (some ⟨g, 0, none⟩) L.length cap ∧ ∀ j, j < L.length → w.cell? ⟨g, 0 + j, none⟩ = some (.int .i64 (L[j]?.getD 0)) := by
  have hcells := fun g hg => World.ownsRow.cells h (g := g) hg
  rcases h.2 with ⟨rfl, h0⟩ | ⟨g, cap, cur, rfl, _⟩
  · exact .inl ⟨rfl, List.length_eq_zero_iff.1 h0⟩
  · refine .inr ⟨g, cap, rfl, fun j hj => ?_⟩
    have := hcells g rfl j (.int .i64 L[j]) (by simp [intsI, hj])
    have hadd : (⟨g, 0, none⟩ : Addr).add j = ⟨g, j, none⟩ := by unfold Addr.add; split <;> simp_all
    rw [hadd] at this
    simpa [hj] using this
theorem intsAt_rowI' {w : World} {base : Nat} {v : Value} {L : List Int} (h : w.ownsRow base 3 1 v L.length (intsI L)) : IntsAt w v L := by
  rcases intsAt_rowI h with ⟨h1, h2⟩ | ⟨g, cap, hv, hc⟩
  · exact .inl ⟨h2, none, 0, h1⟩
  · exact .inr ⟨g, 0, cap, hv, hc⟩

/-! ### Plain laws on the set of a list -/
theorem cat_toNat {c : Int} (h : isCat c = true) : 0 ≤ c ∧ c.toNat < 64 := by
  simp only [isCat, Bool.and_eq_true, decide_eq_true_eq] at h; omega
theorem ofBits_bit (L : List Int) (h : L.all isCat = true) (j : Nat) : (ofBits L).getLsbD j = decide ((j : Int) ∈ L) := by
  revert h
  refine snoc_ind (Q := fun L => L.all isCat = true → (ofBits L).getLsbD j = decide ((j : Int) ∈ L)) ?_ ?_ L
  · intro _; simp [ofBits]
  · intro L c ih h
    simp only [List.all_append, List.all_cons, List.all_nil, Bool.and_true, Bool.and_eq_true] at h
    obtain ⟨hc0, hc1⟩ := cat_toNat h.2
    rw [ofBits_snoc, BitVec.getLsbD_or, ih h.1, one_shl_bit _ j hc1, Bool.eq_iff_iff]
    simp only [Bool.or_eq_true, decide_eq_true_eq, List.mem_append, List.mem_singleton]
    constructor
    · rintro (h | h)
      · exact .inl h
      · exact .inr (by omega)
    · rintro (h | h)
      · exact .inl h
      · exact .inr (by omega)
theorem ofBits_reverse (L : List Int) (h : L.all isCat = true) : ofBits L.reverse = ofBits L := by
  apply BitVec.eq_of_getLsbD_eq
  intro j _
  rw [ofBits_bit _ (by rw [List.all_reverse]; exact h), ofBits_bit _ h, Bool.eq_iff_iff]
  simp
theorem ofRes_reverse (L : List Int) : ofRes L.reverse = ofRes L := by
  unfold ofRes
  rw [List.all_reverse]
  by_cases h : L.all isCat = true
  · rw [if_pos h, if_pos h, ofBits_reverse L h]
  · rw [if_neg h, if_neg h]
theorem has_ofBits (L : List Int) (h : L.all isCat = true) (c : Int) : hasB (ofBits L) c = decide (c ∈ L) := by
  unfold hasB
  by_cases h0 : 0 ≤ c
  · rw [ofBits_bit L h]
    simp [h0, Int.toNat_of_nonneg h0]
  · have : c ∉ L := fun hm => h0 (cat_toNat (List.all_eq_true.1 h c hm)).1
    simp [h0, this]
theorem filter_or (l : List Nat) (p q : Nat → Bool) : (l.filter (fun i => p i || q i)).length ≤ (l.filter p).length + (l.filter q).length := by
  induction l with
  | nil => simp
  | cons x l ih => cases hp : p x <;> cases hq : q x <;> simp [hp, hq] <;> omega
theorem one_filter : ∀ c, c < 64 → ((List.range 64).filter (fun i => decide (i = c))).length ≤ 1 := by decide +kernel
theorem cats_ofBits (L : List Int) (h : L.all isCat = true) : (cats (ofBits L)).length ≤ L.length := by
  revert h
  refine snoc_ind (Q := fun L => L.all isCat = true → (cats (ofBits L)).length ≤ L.length) ?_ ?_ L
  · intro _; decide
  · intro L c ih h
    simp only [List.all_append, List.all_cons, List.all_nil, Bool.and_true, Bool.and_eq_true] at h
    obtain ⟨hc0, hc1⟩ := cat_toNat h.2
    have h1 := ih h.1
    have h2 := one_filter c.toNat hc1
    have e : cats (ofBits (L ++ [c])) = (List.range 64).filter (fun i => (ofBits L).getLsbD i || decide (i = c.toNat)) := by
      unfold cats
      rw [ofBits_snoc]
      apply List.filter_congr
      intro i _
      rw [BitVec.getLsbD_or, one_shl_bit _ i hc1]
    have h3 := filter_or (List.range 64) (fun i => (ofBits L).getLsbD i) (fun i => decide (i = c.toNat))
    rw [e, List.length_append, List.length_singleton]
    unfold cats at h1
    omega
theorem drop_cons (L : List Int) (m : Nat) (h : m < L.length) : L.drop m = L[m]?.getD 0 :: L.drop (m + 1) := by
  rw [List.drop_eq_getElem_cons h]; simp [h]
theorem drop_rev (L : List Int) (m : Nat) (h : m < L.length) : (L.drop m).reverse = (L.drop (m + 1)).reverse ++ [L[m]?.getD 0] := by
  rw [drop_cons L m h, List.reverse_cons]

theorem lists_long (a : Option Addr) (n cap : Nat) (c : Int) (w : World) (hg : gTop ≤ w.heap.size) (hl : Laid w) (h : 200 < n) :
    Calls Tryd.prog 8 #[.slice a n cap, .int .i64 c] w fun e w' => e = .returned (.bool true) ∧ Below w.heap.size w w' := by
  have HAL := Lib.hid (alive_any w hg hl)
  clear hl
  go_enter Tryd.func8, Tryd.ntmps8
  go_wp2_with fail
  refine HAL.out.mono ?_
  rintro e w1 ⟨rfl, hB⟩
  go_wp2
  go_ret
  exact ⟨rfl, hB⟩

/-- What is left of the law behind the loop. -/
structure ListsEnd (L : List Int) (c : Int) (s : BitVec 64) (ok : Bool) : Prop where
  res : ofRes L = .tuple #[U s, .bool ok]
  has : ok = true → hasB s c = decide (c ∈ L)
  len : (cats s).length ≤ L.length
theorem lists_end (L : List Int) (c : Int) : ∃ s ok, ListsEnd L c s ok := by
  by_cases h : L.all isCat = true
  · exact ⟨ofBits L, true, by rw [ofRes, if_pos h], fun _ => has_ofBits L h c, cats_ofBits L h⟩
  · exact ⟨0#64, false, by rw [ofRes, if_neg h], fun e => (by cases e), by rw [cats_zero]; simp⟩

set_option maxRecDepth 100000 in
set_option maxHeartbeats 2000000 in
theorem lists_at (b off cap : Nat) (L : List Int) (c : Int) (w : World) (hg : gTop ≤ w.heap.size) (hl : Laid w) (hv : IntsAt w (.slice (some ⟨b, off, none⟩) L.length cap) L)
    (hcell : ∀ j, j < L.length → w.cell? ⟨b, off + j, none⟩ = some (.int .i64 (L[j]?.getD 0))) (h : L.length ≤ 200) :
    Calls Tryd.prog 8 #[.slice (some ⟨b, off, none⟩) L.length cap, .int .i64 c] w fun e w' => e = .returned (.bool true) ∧ Below w.heap.size w w' := by
  have HC := Lib.hid hcell
  have hblt : ∀ j, j < L.length → b < w.heap.size := fun j hj => World.block_lt_of_cell? w _ (hcell j hj)
  have HBL := Lib.hid hblt
  clear hcell hblt
  obtain ⟨i0, hi, hz0, hz1, hz2⟩ := info_parts info_int
  have HAL := Lib.hid (alive_any w hg hl)
  have HL := Lib.hid hl
  have HV := Lib.hid hv
  clear hl hv
  obtain ⟨s, ok, hend⟩ := lists_end L c
  have hn : ¬ 200 < L.length := by omega
  have hnd : decide (200 < (L.length : Int)) = false := by simp; omega
  have hnd2 : decide (200 < L.length) = false := by simp; omega
  have hrev := ofRes_reverse L
  rw [hend.res] at hrev
  have HRES := Lib.hid hend.res
  have HREV := Lib.hid hrev
  have hhas := hend.has
  have hlen := hend.len
  clear hend hrev
  go_enter Tryd.func8, Tryd.ntmps8
  go_wp2_with fail
  refine HAL.out.mono ?_
  rintro e w1 ⟨rfl, hB⟩
  have hv1 := HV.out.below hB
  have hof := of_any _ L w1 hv1 (by omega)
  rw [HRES.out] at hof
  have HOF := Lib.hid hof
  have HV1 := Lib.hid hv1
  clear hof hv1
  go_wp2_with fail
  refine HOF.out.mono ?_
  rintro e w' ⟨rfl, rfl⟩
  go_wp2_with fail
  go_loopw [7, 8, 9] (fun x u i wr => ∃ m : Nat, m ≤ L.length ∧ i = .int .i64 ((m : Int) - 1) ∧ x = .bool (decide (c ∈ L.drop m)) ∧ wr.ownsRow w1.heap.size 3 1 u (L.drop m).reverse.length (intsI (L.drop m).reverse) ∧ Below w1.heap.size w1 wr) (fun _ _ i _ => (intOf i + 1).toNat)
  case atStart =>
    refine ⟨L.length, Nat.le_refl _, rfl, by simp, ?_, (Below.refl _ _).alloc (Nat.le_refl _) _⟩
    simp only [List.drop_length, List.reverse_nil]
    exact World.ownsRow_made _ _ _ (Nat.le_refl _) (by decide) rfl
  case round =>
    obtain ⟨m, hm, rfl, rfl, hown, hBr⟩ := hrel
    by_cases hlt : 0 < m
    · obtain ⟨j, rfl⟩ : ∃ j, m = j + 1 := ⟨m - 1, by omega⟩
      have ei : (((j + 1 : Nat) : Int) - 1) = (j : Int) := by omega
      rw [ei]
      have x1 := ((hB.trans (hBr.mono hB.size)).cell (p := ⟨b, off + j, none⟩) (HBL.out j (by omega))).trans (HC.out j (by omega))
      have HD := Lib.hid (drop_cons L j (by omega))
      have HR := Lib.hid (drop_rev L j (by omega))
      have hlr : (L.drop (j + 1)).reverse.length ≤ 200 := by simp; omega
      obtain ⟨y, hy⟩ : ∃ y, L[j]?.getD 0 = y := ⟨_, rfl⟩
      rw [hy] at x1 HD HR
      clear hy ei
      have hA1 : (L.drop (j + 1)).reverse.length + 1 ≤ maxLen := by unfold maxLen; omega
      have hA2 : ((L.drop (j + 1)).reverse.length + 1) * 8 ≤ 140737488355328 := by omega
      have hA3 : w1.heap.size ≤ (wr.alloc (.cells #[.int .i64 y] 3)).heap.size := by rw [World.size_alloc]; have := hBr.size; omega
      have hin : decide (c ∈ L.drop j) = (decide (c ∈ L.drop (j + 1)) || (y == c)) := by
        rw [HD.out, Bool.eq_iff_iff]
        simp only [Bool.or_eq_true, decide_eq_true_eq, List.mem_cons, beq_iff_eq]
        exact ⟨fun h => h.elim (fun e => .inr e.symm) .inl, fun h => h.elim .inr (fun e => .inl e.symm)⟩
      obtain ⟨x, hx⟩ : ∃ x, decide (c ∈ L.drop (j + 1)) = x := ⟨_, rfl⟩
      rw [hx] at hin ⊢
      have HIN := Lib.hid hin
      clear hx hin
      cases x
      · go_wp2_with (at_builtin; refine wpList_append_own _ rfl _ _ 22 rfl w1.heap.size 3 i0 (.int .i64 0) 1 8 Tryd.underlying22 hi hz0 hz1 hz2 rfl (by decide) _ _ _ rfl (hown.alloc _) ⟨wr.heap.size, 0, none⟩ 1 1 [.int .i64 y] rfl rfl (cell_one_new _ _ _) (by simp [Value.oneCell']) hA1 hA2 hA3 ?_; intro v' w2 hown' hgrow _)
        have hB3 := (hBr.alloc hBr.size (.cells #[.int .i64 y] 3)).grown hgrow (by simp; have := hBr.size; omega) (fun q ej => (hown.lt q ej).1)
        have hrow3 : Hid (w2.ownsRow w1.heap.size 3 1 v' (L.drop j).reverse.length (intsI (L.drop j).reverse)) := by
          rw [HR.out, intsI_snoc, List.length_append]; exact hown'
        clear hown hown' hgrow x1
        go_roundw
        case rel => exact ⟨j, by omega, by go_num, HIN.out.symm ▸ rfl, hrow3.out, hB3⟩
        case measure => simp [intOf]
      · go_wp2_with (at_builtin; refine wpList_append_own _ rfl _ _ 22 rfl w1.heap.size 3 i0 (.int .i64 0) 1 8 Tryd.underlying22 hi hz0 hz1 hz2 rfl (by decide) _ _ _ rfl (hown.alloc _) ⟨wr.heap.size, 0, none⟩ 1 1 [.int .i64 y] rfl rfl (cell_one_new _ _ _) (by simp [Value.oneCell']) hA1 hA2 hA3 ?_; intro v' w2 hown' hgrow _)
        have hB3 := (hBr.alloc hBr.size (.cells #[.int .i64 y] 3)).grown hgrow (by simp; have := hBr.size; omega) (fun q ej => (hown.lt q ej).1)
        have hrow3 : Hid (w2.ownsRow w1.heap.size 3 1 v' (L.drop j).reverse.length (intsI (L.drop j).reverse)) := by
          rw [HR.out, intsI_snoc, List.length_append]; exact hown'
        clear hown hown' hgrow x1
        go_roundw
        case rel => exact ⟨j, by omega, by go_num, HIN.out.symm ▸ rfl, hrow3.out, hB3⟩
        case measure => simp [intOf]
    · have hm0 : m = 0 := by omega
      subst hm0
      rw [List.drop_zero] at hown
      have hback := intsAt_rowI' hown
      have hofb := of_any _ _ wr hback (by rw [List.length_reverse]; omega)
      rw [HREV.out] at hofb
      have HOFB := Lib.hid hofb
      clear hofb hback hown
      go_wp2_with fail
      refine HOFB.out.mono ?_
      rintro e w' ⟨rfl, rfl⟩
      have hBw := hB.trans (hBr.mono hB.size)
      have hlist := list_len s wr (HL.out.below hBw) (Nat.le_trans hg hBw.size)
      have HLS := Lib.hid hlist
      clear hlist
      cases ok
      · clear hhas
        go_wp2_with fail
        refine HLS.out.mono ?_
        rintro e w3 ⟨a3, c3, rfl, hb3⟩
        have hB3 := hBw.trans (hb3.mono hBw.size)
        go_wp2
        go_ret
        exact ⟨rfl, hB3⟩
      · have hh := has_any s c wr
        rw [hhas rfl] at hh
        have HH := Lib.hid hh
        clear hh hhas
        go_wp2_with fail
        refine HH.out.mono ?_
        rintro e w' ⟨rfl, rfl⟩
        go_wp2_with fail
        refine HLS.out.mono ?_
        rintro e w3 ⟨a3, c3, rfl, hb3⟩
        have hB3 := hBw.trans (hb3.mono hBw.size)
        go_wp2
        go_ret
        exact ⟨rfl, hB3⟩

theorem of_empty (a : Option Addr) (cap : Nat) (w : World) (h : IntsAt w (.slice a 0 cap) []) : Calls Tryd.prog 17 #[.slice a 0 cap] w fun e w' => e = .returned (.tuple #[.int .u64 0, .bool true]) ∧ w = w' := of_any _ [] w h (by decide)
theorem has_empty (c : Int) (w : World) : Calls Tryd.prog 24 #[.int .u64 0, .int .i64 c] w fun e w' => e = .returned (.bool false) ∧ w = w' := by
  have h := has_any 0#64 c w
  have e : hasB 0#64 c = false := by simp [hasB]
  rw [e] at h
  exact h
theorem list_empty (w : World) (hl : Laid w) (hg : gTop ≤ w.heap.size) :
    Calls Tryd.prog 22 #[.int .u64 0] w fun e w' => ∃ a cap, e = .returned (.slice a 0 cap) ∧ Below w.heap.size w w' := list_len 0#64 w hl hg

set_option maxRecDepth 100000 in
set_option maxHeartbeats 1000000 in
theorem lists_nil (a : Option Addr) (cap : Nat) (c : Int) (w : World) (hg : gTop ≤ w.heap.size) (hl : Laid w) :
    Calls Tryd.prog 8 #[.slice a 0 cap, .int .i64 c] w fun e w' => e = .returned (.bool true) ∧ Below w.heap.size w w' := by
  have HAL := Lib.hid (alive_any w hg hl)
  have HL := Lib.hid hl
  clear hl
  go_enter Tryd.func8, Tryd.ntmps8
  go_wp2_with fail
  refine HAL.out.mono ?_
  rintro e w1 ⟨rfl, hB⟩
  have hB1 := hB.alloc hB.size (.cells #[] 3)
  have HOF := Lib.hid (of_empty a cap w1 (.inl ⟨rfl, a, cap, rfl⟩))
  have HOF2 := Lib.hid (of_empty (some ⟨w1.heap.size, 0, none⟩) 0 (w1.alloc (.cells #[] 3)) (.inr ⟨_, 0, 0, rfl, fun j hj => absurd hj (by simp)⟩))
  have HLE := Lib.hid (list_empty (w1.alloc (.cells #[] 3)) (HL.out.below hB1) (Nat.le_trans hg hB1.size))
  have HH := Lib.hid (has_empty c (w1.alloc (.cells #[] 3)))
  go_wp2_with fail
  refine HOF.out.mono ?_
  rintro e w' ⟨rfl, rfl⟩
  go_wp2_with fail
  go_loop [7, 8, 9] (fun x u i => i = .int .i64 (-1) ∧ x = .bool false ∧ u = .slice (some ⟨w1.heap.size, 0, none⟩) 0 0) (fun _ _ _ => 0)
  case atStart => exact ⟨rfl, rfl, rfl⟩
  case round =>
    obtain ⟨rfl, rfl, rfl⟩ := hrel
    go_wp2_with fail
    refine HOF2.out.mono ?_
    rintro e w' ⟨rfl, rfl⟩
    go_wp2_with fail
    refine HH.out.mono ?_
    rintro e w' ⟨rfl, rfl⟩
    go_wp2_with fail
    refine HLE.out.mono ?_
    rintro e w3 ⟨a3, c3, rfl, hb3⟩
    have hB3 := hB1.trans (hb3.mono hB1.size)
    go_wp2
    go_ret
    exact ⟨rfl, hB3⟩

theorem lists_any (v : Value) (L : List Int) (c : Int) (w : World) (hg : gTop ≤ w.heap.size) (hl : Laid w) (hv : IntsAt w v L) :
    Calls Tryd.prog 8 #[v, .int .i64 c] w fun e w' => e = .returned (.bool true) ∧ Below w.heap.size w w' := by
  have hv' := hv
  rcases hv with ⟨rfl, a, cap, rfl⟩ | ⟨b, off, cap, rfl, hc⟩
  · exact lists_nil a cap c w hg hl
  · by_cases h : L.length ≤ 200
    · exact lists_at b off cap L c w hg hl hv' hc h
    · exact lists_long _ _ _ c w hg hl (by omega)
end Go.Proofs.YtegjlgdbipfpaaaDoor
