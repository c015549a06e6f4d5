/-
  span.text and set.Show.
-/
import Derived.Test.YtegjlgdbipfpaaaGreatDoorSpans
import Derived.Test.YtegjlgdbipfpaaaGreatDoorShelf
import Derived.Deep.QuietTactic
import Derived.BigQuiet
namespace Go.Proofs.YtegjlgdbipfpaaaGreatDoor
open Go Go.RowKit

abbrev Str (l : List UInt8) : Value := .string ⟨l.toArray⟩

def spanText (p : Nat × Nat) : List UInt8 := if p.1 = p.2 then Lib.decDigits p.1 else Lib.decDigits p.1 ++ [45] ++ Lib.decDigits p.2

/-- A category's numeral. -/
theorem dec_eq (i : Nat) (hi : i < 100) : Lib.decDigits i = if i < 10 then [UInt8.ofNat (48 + i)] else [UInt8.ofNat (48 + i / 10), UInt8.ofNat (48 + i % 10)] := by
  rw [Lib.decDigits]
  by_cases h : i < 10
  · simp [h]
  · rw [dif_neg h, if_neg h, Lib.decDigits, dif_pos (by omega)]
    rfl
theorem dec_len (i : Nat) (hi : i < 100) : (Lib.decDigits i).length ≤ 2 := by
  rw [dec_eq i hi]
  split <;> simp

theorem itoa_any (i : Nat) (hi : i < 100) (w : World) : Calls Tryz.prog 64 #[.int .i64 i] w fun e w' => e = .returned (Str (Lib.decDigits i)) ∧ w = w' :=
  (Tryz.strconv_Itoa_small i hi w).mono fun _ _ ⟨h1, h2⟩ => ⟨h1, h2.symm⟩

theorem text_one (f : Nat) (hf : f < 64) (w : World) :
    Calls Tryz.prog 54 #[.agg #[.int .i64 f, .int .i64 f]] w fun e w' => e = .returned (Str (spanText (f, f))) ∧ Below w.heap.size w w' := by
  have e : spanText (f, f) = Lib.decDigits f := by simp [spanText]
  rw [e]
  go_enter Tryz.func54, Tryz.ntmps54
  go_wp2_with (go_at_call 64; refine (itoa_any _ (by omega) _).mono ?_; rintro e w' ⟨rfl, rfl⟩)
  go_ret
  exact ⟨rfl, (Below.refl _ _).alloc (Nat.le_refl _) _⟩

theorem str_cat3 (a b : List UInt8) : Value.string (ByteArray.mk a.toArray ++ ByteArray.mk #[45] ++ ByteArray.mk b.toArray) = Str (a ++ [45] ++ b) := by
  rw [show (#[45] : Array UInt8) = [45].toArray from rfl, ByteArray.mk_append_mk, ByteArray.mk_append_mk]

theorem text_two (f t : Nat) (hf : f < 64) (ht : t < 64) (hne : f ≠ t) (w : World) :
    Calls Tryz.prog 54 #[.agg #[.int .i64 f, .int .i64 t]] w fun e w' => e = .returned (Str (spanText (f, t))) ∧ Below w.heap.size w w' := by
  have e : spanText (f, t) = Lib.decDigits f ++ [45] ++ Lib.decDigits t := by simp [spanText, hne]
  rw [e]
  have hb : ((f : Int) == (t : Int)) = false := by rw [beq_eq_false_iff_ne]; omega
  have l1 := dec_len f (by omega)
  have l2 := dec_len t (by omega)
  clear hne e
  go_enter Tryz.func54, Tryz.ntmps54
  go_wp2
  go_quiet ((go_at_call 64; refine Calls.quiet_of_same (Tryz.strconv_Itoa_small _ (by omega) _)))
  go_wp2
  go_ret
  exact ⟨ret_of (str_cat3 _ _), below_drewN ((Below.refl _ _).alloc (Nat.le_refl _) _) nq⟩

theorem text_any (p : Nat × Nat) (h1 : p.1 < 64) (h2 : p.2 < 64) (w : World) :
    Calls Tryz.prog 54 #[.agg #[.int .i64 p.1, .int .i64 p.2]] w fun e w' => e = .returned (Str (spanText p)) ∧ Below w.heap.size w w' := by
  obtain ⟨f, t⟩ := p
  by_cases h : f = t
  · subst h; exact text_one f h1 w
  · exact text_two f t h1 h2 h w

theorem spanText_len (p : Nat × Nat) (h1 : p.1 < 64) (h2 : p.2 < 64) : (spanText p).length ≤ 5 := by
  have l1 := dec_len p.1 (by omega)
  have l2 := dec_len p.2 (by omega)
  unfold spanText
  split
  · omega
  · simp; omega

theorem mem_stepSpan {acc : List (Nat × Nat)} {c : Nat} {p : Nat × Nat} (h : p ∈ stepSpan acc c) : p = (c, c) ∨ p ∈ acc ∨ ∃ t, (p.1, t) ∈ acc ∧ p.2 = c := by
  rcases List.eq_nil_or_concat acc with rfl | ⟨i, ⟨f, t⟩, rfl⟩
  · rw [stepSpan_nil] at h; simp at h; exact .inl h
  · rw [List.concat_eq_append] at h ⊢
    by_cases e : t + 1 = c
    · rw [stepSpan_next _ _ _ _ e] at h
      simp only [List.mem_append, List.mem_singleton] at h ⊢
      rcases h with h | rfl
      · exact .inr (.inl (.inl h))
      · exact .inr (.inr ⟨t, .inr rfl, rfl⟩)
    · rw [stepSpan_new _ _ _ _ e] at h
      simp only [List.mem_append, List.mem_singleton] at h ⊢
      rcases h with h | h
      · exact .inr (.inl h)
      · exact .inl h
theorem snoc_ind {α : Type} {Q : List α → Prop} (h0 : Q []) (h1 : ∀ l c, Q l → Q (l ++ [c])) (l : List α) : Q l := by
  rw [← List.reverse_reverse l]
  induction l.reverse with
  | nil => exact h0
  | cons c r ih => rw [List.reverse_cons]; exact h1 _ _ ih
theorem mem_spansOf (l : List Nat) : ∀ p ∈ spansOf l, p.1 ∈ l ∧ p.2 ∈ l := by
  refine snoc_ind (Q := fun l => ∀ p ∈ spansOf l, p.1 ∈ l ∧ p.2 ∈ l) ?_ ?_ l
  · intro p h; simp [spansOf] at h
  · intro l c ih p h
    rw [spansOf_snoc] at h
    rcases mem_stepSpan h with rfl | h | ⟨t, h, e⟩
    · simp
    · have := ih p h; simp [this.1, this.2]
    · have := ih _ h; simp [this.1, e]
theorem spans_lt {s : BitVec 64} {p : Nat × Nat} (h : p ∈ spansOf (cats s)) : p.1 < 64 ∧ p.2 < 64 :=
  ⟨cats_lt (mem_spansOf _ _ h).1, cats_lt (mem_spansOf _ _ h).2⟩
theorem stepSpan_ne (acc : List (Nat × Nat)) (c : Nat) : stepSpan acc c ≠ [] := by
  rcases List.eq_nil_or_concat acc with rfl | ⟨i, ⟨f, t⟩, rfl⟩
  · simp [stepSpan_nil]
  · rw [List.concat_eq_append]
    by_cases e : t + 1 = c
    · rw [stepSpan_next _ _ _ _ e]; simp
    · rw [stepSpan_new _ _ _ _ e]; simp
theorem spansOf_ne {l : List Nat} (h : l ≠ []) : spansOf l ≠ [] := by
  rcases List.eq_nil_or_concat l with rfl | ⟨i, c, rfl⟩
  · exact absurd rfl h
  · rw [List.concat_eq_append, spansOf_snoc]; exact stepSpan_ne _ _

/-- The stretches' texts. -/
def texts (s : BitVec 64) : List (List UInt8) := (spansOf (cats s)).map spanText
/-- A set as text. -/
def showL (s : BitVec 64) : List UInt8 := if s = 0#64 then [110, 111, 110, 101] else Lib.join (texts s) [44]

theorem show_empty (w : World) : Calls Tryz.prog 41 #[U 0#64] w fun e w' => e = .returned (Str [110, 111, 110, 101]) ∧ w = w' := by
  go_enter Tryz.func41, Tryz.ntmps41
  go_wp2
  go_ret
  exact ⟨rfl, rfl⟩

def strRow (L : List (List UInt8)) : List Value := L.map fun l => Str l
theorem strRow_snoc (L : List (List UInt8)) (x : List UInt8) : strRow (L ++ [x]) = strRow L ++ [Str x] := by simp [strRow]
theorem info_string : (Tryz.prog.info? 9).map (fun i => (i.zero, i.size, i.bytes)) = some (some (.string ⟨#[]⟩), 1, 16) := by kernel_rfl

theorem spanCells_at (L : List (Nat × Nat)) (k : Nat) (hk : k < L.length) :
    (spanCells L)[k * 2]? = some (.int .i64 ((L[k]?.getD (0, 0)).1 : Int)) ∧ (spanCells L)[k * 2 + 1]? = some (.int .i64 ((L[k]?.getD (0, 0)).2 : Int)) := by
  induction L generalizing k with
  | nil => simp at hk
  | cons p L ih =>
    cases k with
    | zero => simp [spanCells]
    | succ k =>
      have e : spanCells (p :: L) = .int .i64 (p.1 : Int) :: .int .i64 (p.2 : Int) :: spanCells L := rfl
      rw [e, show (k + 1) * 2 = k * 2 + 1 + 1 by omega, List.getElem?_cons_succ, List.getElem?_cons_succ, List.getElem?_cons_succ, List.getElem?_cons_succ, List.getElem?_cons_succ]
      exact ih k (by simpa using hk)

theorem row_some {w : World} {base size k : Nat} {e : TypeId} {v : Value} {xs : List Value} (h : w.ownsRow base e size v k xs) (hk : 0 < k) : ∃ g cap, v = .slice (some ⟨g, 0, none⟩) k cap := by
  rcases h.2 with ⟨_, h0⟩ | ⟨g, cap, _, rfl, _⟩
  · omega
  · exact ⟨g, cap, rfl⟩
theorem row_cap {w : World} {base size k g cap : Nat} {e : TypeId} {xs : List Value} (h : w.ownsRow base e size (.slice (some ⟨g, 0, none⟩) k cap) k xs) : g < w.heap.size ∧ k ≤ cap := by
  refine ⟨(h.lt g rfl).2, ?_⟩
  rcases h.2 with ⟨h', _⟩ | ⟨g', cap', cur, h', _, _, hc, _⟩
  · simp at h'
  · simp only [Value.slice.injEq] at h'
    omega
theorem strRow_cells {w : World} {base k g cap : Nat} {e : TypeId} {L : List (List UInt8)} (h : w.ownsRow base e 1 (.slice (some ⟨g, 0, none⟩) k cap) k (strRow L)) :
    ∀ (j : Nat) x, (L.map fun l => ByteArray.mk l.toArray)[j]? = some x → w.cell? ⟨g, 0 + j, none⟩ = some (.string x) := by
  intro j x hx
  have hk : L.length = k * 1 := by have := h.1; simpa [strRow] using this
  have hj : j < L.length := by
    have := (List.getElem?_eq_some_iff.1 hx).1
    simpa using this
  rw [Nat.zero_add, h.cellAt j (by omega)]
  simp only [List.getElem?_map, Option.map_eq_some_iff] at hx
  obtain ⟨l, hl, rfl⟩ := hx
  simp [strRow, hl]
theorem map_data (L : List (List UInt8)) : (L.map fun l => ByteArray.mk l.toArray).map (·.data.toList) = L := by simp [List.map_map, Function.comp_def]
theorem join_len (L : List (List UInt8)) (h : ∀ x ∈ L, x.length ≤ 5) : (Lib.join L [44]).length ≤ 6 * L.length := by
  cases L with
  | nil => simp [Lib.join_nil]
  | cons x r =>
    rw [Lib.join_cons]
    have hx := h x (by simp)
    have hr : (Lib.joinTail [44] r).length ≤ 6 * r.length := by
      have h' : ∀ x ∈ r, x.length ≤ 5 := fun y hy => h y (by simp [hy])
      clear h hx
      induction r with
      | nil => simp [Lib.joinTail]
      | cons y r ih =>
        have h1 := h' y (by simp)
        have h2 := ih (fun z hz => h' z (by simp [hz]))
        simp only [Lib.joinTail, List.map_cons, List.flatten_cons, List.length_append, List.length_cons, List.length_nil] at h2 ⊢
        omega
    simp only [List.length_append, List.length_cons]
    omega

theorem grownBy_of_below {w w' : World} (h : Below w.heap.size w w') : w.grownBy w' none := ⟨h.os, h.tape, h.output, h.size, fun k hk _ => h.block k hk⟩
theorem none_or_ne (x : Option Nat) : x = none ∨ x ≠ none := by cases x <;> simp

set_option maxRecDepth 100000 in
set_option maxHeartbeats 1000000 in
theorem show_some (s : BitVec 64) (w : World) (hs : s ≠ 0#64) (hg : gTop ≤ w.heap.size) (hl : Laid w) :
    Calls Tryz.prog 41 #[U s] w fun e w' => e = .returned (Str (Lib.join (texts s) [44])) ∧ Below w.heap.size w w' := by
  obtain ⟨i0, hi, hz0, hz1, hz2⟩ := info_parts info_string
  have hz : ¬ s.toNat = 0 := fun e => hs (BitVec.eq_of_toNat_eq (by simpa using e))
  have HSP := Lib.hid (spans_any s w hg hl)
  have hlt : ∀ p ∈ spansOf (cats s), p.1 < 64 ∧ p.2 < 64 := fun p hp => spans_lt hp
  have hne : spansOf (cats s) ≠ [] := spansOf_ne (fun e => hs (cats_eq_nil.1 e))
  have hlen : (spansOf (cats s)).length ≤ 64 := Nat.le_trans (spansOf_length _) (cats_length s)
  have HT : Hid (texts s = (spansOf (cats s)).map spanText) := rfl
  obtain ⟨L, hL⟩ : ∃ L, spansOf (cats s) = L := ⟨_, rfl⟩
  rw [hL] at HSP hlt hne hlen HT
  clear hL hs
  have HLT := Lib.hid hlt
  clear hlt
  unfold U at HSP ⊢
  go_enter Tryz.func41, Tryz.ntmps41
  go_wp2_with fail
  refine HSP.out.mono ?_
  rintro e W1 ⟨v, rfl, hrow, hB⟩
  have hv : ∃ g cap, v = .slice (some ⟨g, 0, none⟩) L.length cap := by
    rcases hrow.2 with ⟨_, h0⟩ | ⟨g, cap, _, rfl, _⟩
    · exact absurd (List.length_eq_zero_iff.1 h0) hne
    · exact ⟨g, cap, rfl⟩
  obtain ⟨g, cap, rfl⟩ := hv
  have hgW : g < W1.heap.size := (hrow.lt g rfl).2
  have hcell1 : ∀ k, k < L.length → W1.cell? ⟨g, k * 2, none⟩ = some (.int .i64 ((L[k]?.getD (0, 0)).1 : Int)) := by
    intro k hk
    rw [hrow.cellAt _ (by omega)]
    exact (spanCells_at L k hk).1
  have hcell2 : ∀ k, k < L.length → W1.cell? ⟨g, k * 2 + 1, none⟩ = some (.int .i64 ((L[k]?.getD (0, 0)).2 : Int)) := by
    intro k hk
    rw [hrow.cellAt _ (by omega)]
    exact (spanCells_at L k hk).2
  have HC1 := Lib.hid hcell1
  have HC2 := Lib.hid hcell2
  have HNE := Lib.hid hne
  clear hcell1 hcell2 hne hrow
  go_wp2_with fail
  go_loopw [3, 11] (fun v i wr => ∃ k : Nat, k ≤ L.length ∧ i = .int .i64 k ∧ wr.ownsRow W1.heap.size 9 1 v k (strRow ((L.take k).map spanText)) ∧ Below W1.heap.size W1 wr) (fun _ i _ => L.length - (intOf i).toNat)
  case atStart => exact ⟨0, Nat.zero_le _, rfl, World.ownsRow_nil _ _ _ _, Below.refl _ _⟩
  case round =>
    obtain ⟨k, hk, rfl, hown, hBr⟩ := hrel
    by_cases hlt : k < L.length
    · have hx1 := (hBr.cell (p := ⟨g, k * 2, none⟩) hgW).trans (HC1.out k hlt)
      have hx2 := (hBr.cell (p := ⟨g, k * 2 + 1, none⟩) hgW).trans (HC2.out k hlt)
      have hp := HLT.out (L[k]?.getD (0, 0)) (by simp [hlt])
      have hts : L.take (k + 1) = L.take k ++ [L[k]?.getD (0, 0)] := by rw [List.take_succ_eq_append_getElem hlt]; simp [hlt]
      obtain ⟨p, hpv⟩ : ∃ p, L[k]?.getD (0, 0) = p := ⟨_, rfl⟩
      rw [hpv] at hx1 hx2 hp hts
      have HTS := Lib.hid hts
      clear hts hpv
      have htx := fun W => text_any p hp.1 hp.2 W
      have HTX := Lib.hid htx
      clear htx
      obtain ⟨hp1, hp2⟩ := hp
      have hA1 : k + 1 ≤ maxLen := by unfold maxLen; omega
      have hA2 : (k + 1) * 16 ≤ 140737488355328 := by omega
      have hs0 := hBr.size
      go_wp2_with fail
      refine (HTX.out _).mono ?_
      rintro e W2 ⟨rfl, hb2⟩
      have hown2 := (hown.alloc (.cells #[.int .i64 (p.1 : Int), .int .i64 (p.2 : Int)] 61)).kept (grownBy_of_below hb2) (none_or_ne _)
      have hB2 := (hBr.alloc hs0 (.cells #[.int .i64 (p.1 : Int), .int .i64 (p.2 : Int)] 61)).trans (hb2.mono (by simp; omega))
      have hs2 := hB2.size
      have hA3 : W1.heap.size ≤ (W2.alloc (.cells #[Str (spanText p)] 9)).heap.size := by rw [World.size_alloc]; omega
      go_wp2_with (at_builtin; refine wpList_append_own _ rfl _ _ 69 rfl W1.heap.size 9 i0 (.string ⟨#[]⟩) 1 16 Tryz.underlying69 hi hz0 hz1 hz2 rfl (by decide) _ _ _ rfl (hown2.alloc _) ⟨W2.heap.size, 0, none⟩ 1 1 [Str (spanText p)] rfl rfl (cell_one_new _ _ _) (by simp [Value.oneCell']) hA1 hA2 hA3 ?_; intro v' w1 hown' hgrow _)
      have hB3 := (hB2.alloc hs2 (.cells #[Str (spanText p)] 9)).grown hgrow (by simp; omega) (fun j ej => (hown2.lt j ej).1)
      have hrow3 : Hid (w1.ownsRow W1.heap.size 9 1 v' (k + 1) (strRow ((L.take (k + 1)).map spanText))) := by
        rw [HTS.out, List.map_append, List.map_singleton, strRow_snoc]; exact hown'
      clear hown hown2 hown' hgrow hBr hB2 hx1 hx2 hb2
      go_roundw
      case rel => exact ⟨k + 1, by omega, by go_num, hrow3.out, hB3⟩
      case measure => simp [intOf]; omega
    · have hkl : k = L.length := by omega
      subst hkl
      rw [List.take_length] at hown
      have hvv := row_some hown (List.length_pos_iff.2 HNE.out)
      obtain ⟨g', cap', hv⟩ := hvv
      have hxl : ((L.map spanText).map fun l => ByteArray.mk l.toArray).length = L.length := by simp
      have hown2 := hown
      rw [hv] at hown2
      obtain ⟨hgw, hcw⟩ := row_cap hown2
      have hj := Tryz.strings_Join g' 0 cap' ((L.map spanText).map fun l => ByteArray.mk l.toArray) ⟨#[44]⟩ wr (strRow_cells hown2) hgw (by rw [hxl]; omega) (by rw [hxl]; exact hcw)
        (by
          have h := join_len (L.map spanText) (by
            intro x hx
            obtain ⟨p, hp, rfl⟩ := List.mem_map.1 hx
            have := HLT.out p hp
            exact spanText_len p this.1 this.2)
          rw [map_data]
          rw [List.length_map] at h
          show (Lib.join (L.map spanText) [44]).length ≤ 140737488355328
          omega)
      rw [hxl, map_data] at hj
      have HJ := Lib.hid hj
      clear hj hxl hown hown2 hcw hgw
      go_wp2_with fail
      refine HJ.out.mono ?_
      rintro e W3 ⟨rfl, hb3⟩
      go_wp2
      go_ret
      exact ⟨congrArg (fun l => Ending.returned (Str (Lib.join l [44]))) HT.out.symm, (hB.trans (hBr.mono hB.size)).trans (hb3.mono (Nat.le_trans hB.size hBr.size))⟩

/-- **set.Show** -/
theorem show_any (s : BitVec 64) (w : World) (hg : gTop ≤ w.heap.size) (hl : Laid w) :
    Calls Tryz.prog 41 #[U s] w fun e w' => e = .returned (Str (showL s)) ∧ Below w.heap.size w w' := by
  by_cases h : s = 0#64
  · subst h
    exact (show_empty w).mono fun e w' ⟨he, hw⟩ => ⟨he, hw ▸ Below.refl _ _⟩
  · rw [showL, if_neg h]
    exact show_some s w h hg hl
end Go.Proofs.YtegjlgdbipfpaaaGreatDoor
