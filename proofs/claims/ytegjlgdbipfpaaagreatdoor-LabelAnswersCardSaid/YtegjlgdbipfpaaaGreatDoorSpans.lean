/-
  set.spans: the stretches of a set.
-/
import Derived.Test.YtegjlgdbipfpaaaGreatDoorOf
namespace Go.Proofs.YtegjlgdbipfpaaaGreatDoor
open Go Go.RowKit Go.Shelf
attribute [local go_sem] Oper.semAt_some wide_fn wide_depth

/-- One category more, behind the stretches so far. -/
def stepSpan (acc : List (Nat × Nat)) (c : Nat) : List (Nat × Nat) :=
  match acc.getLast? with
  | some (f, t) => if t + 1 = c then acc.dropLast ++ [(f, c)] else acc ++ [(c, c)]
  | none => [(c, c)]
def spansOf (l : List Nat) : List (Nat × Nat) := l.foldl stepSpan []
theorem spansOf_snoc (l : List Nat) (c : Nat) : spansOf (l ++ [c]) = stepSpan (spansOf l) c := by simp [spansOf]
theorem stepSpan_nil (c : Nat) : stepSpan [] c = [(c, c)] := rfl
theorem stepSpan_next (i : List (Nat × Nat)) (f t c : Nat) (h : t + 1 = c) : stepSpan (i ++ [(f, t)]) c = i ++ [(f, c)] := by simp [stepSpan, h]
theorem stepSpan_new (i : List (Nat × Nat)) (f t c : Nat) (h : ¬ t + 1 = c) : stepSpan (i ++ [(f, t)]) c = i ++ [(f, t)] ++ [(c, c)] := by simp [stepSpan, h]
theorem stepSpan_length (acc : List (Nat × Nat)) (c : Nat) : (stepSpan acc c).length ≤ acc.length + 1 := by
  rcases List.eq_nil_or_concat acc with rfl | ⟨i, ⟨f, t⟩, rfl⟩
  · simp [stepSpan_nil]
  · rw [List.concat_eq_append]
    by_cases h : t + 1 = c
    · rw [stepSpan_next _ _ _ _ h]; simp
    · rw [stepSpan_new _ _ _ _ h]; simp
theorem spansOf_length (l : List Nat) : (spansOf l).length ≤ l.length := by
  have gen : ∀ (l : List Nat) acc, (l.foldl stepSpan acc).length ≤ acc.length + l.length := by
    intro l
    induction l with
    | nil => intro acc; simp
    | cons c l ih => intro acc; have h1 := ih (stepSpan acc c); have h2 := stepSpan_length acc c; simp only [List.foldl_cons, List.length_cons]; omega
  have := gen l []
  simp only [List.length_nil, Nat.zero_add] at this
  exact this

/-- The cells of a row of stretches. -/
def spanCells (l : List (Nat × Nat)) : List Value := l.flatMap fun p => [.int .i64 (p.1 : Int), .int .i64 (p.2 : Int)]
theorem spanCells_snoc (l : List (Nat × Nat)) (p : Nat × Nat) : spanCells (l ++ [p]) = spanCells l ++ [.int .i64 (p.1 : Int), .int .i64 (p.2 : Int)] := by simp [spanCells]
theorem spanCells_length (l : List (Nat × Nat)) : (spanCells l).length = l.length * 2 := by
  induction l with
  | nil => rfl
  | cons p l ih => simp only [spanCells, List.flatMap_cons, List.length_append, List.length_cons, List.length_nil] at ih ⊢; omega

theorem info_span : (Tryz.prog.info? 61).map (fun i => (i.zero, i.size, i.bytes)) = some (some (.agg #[.int .i64 0, .int .i64 0]), 2, 16) := by kernel_rfl

set_option maxRecDepth 100000 in
set_option maxHeartbeats 2000000 in
theorem spans_in (n : Nat) (hn : 3 ≤ n) (s : BitVec 64) (w : World) (hg : gTop ≤ w.heap.size) (hl : Laid w) :
    CallsIn Fence.wide n Tryz.prog 53 #[U s] w fun e W' =>
      ∃ v, e = .returned v ∧ W'.ownsRow w.heap.size 61 2 v (spansOf (cats s)).length (spanCells (spansOf (cats s))) ∧ Below w.heap.size w W' := by
  have h1 : 1 ≤ n := by omega
  obtain ⟨i0, hi, hz0, hz1, hz2⟩ := info_parts info_span
  have he := each_any s (w.alloc (.cells #[.slice none 0 0] 70))
  refine callsIn_of_wp_marks Tryz.func53 rfl trivial ?_ rfl
  simp only [Tryz.ntmps53, List.size_toArray, List.length_cons, List.length_nil, Nat.reduceAdd, Nat.reduceSub, Array.replicate_succ, Array.replicate_zero, List.push_toArray, List.append_toArray, List.nil_append, List.cons_append]
  gi_wp2_with (gi_at_call 63; refine (callsIn_wide.2 he).mono ?_; rintro e w' ⟨rfl, rfl⟩)
  have bO := Boxed.new w 70 (.slice none 0 0)
  have bS := Boxed.new (w.alloc (.cells #[.slice none 0 0] 70)) 22 (U s)
  rw [World.size_alloc] at bS
  have hB0 : Below w.heap.size w ((w.alloc (.cells #[.slice none 0 0] 70)).alloc (.cells #[U s] 22)) := ((Below.refl _ w).alloc (Nat.le_refl _) _).alloc (by simp) _
  refine wpIn_rangeB rfl h1 (gf := 77) (lb := #[.pointer (some ⟨w.heap.size + 1, 0, none⟩)]) rfl trivial (enters_of Tryz.func77 (by kernel_rfl) rfl)
    (each_seq (n - 1) (w.heap.size + 1) w.heap.size s hg (by omega)) (by simp; omega) (by simp) (by omega) (fun h k => h.trans k) (keep_put (by simp; omega) (by simp))
    (fun o1 o2 => by
      have hk := keep_two (n0 := w.heap.size) (b := w.heap.size + 1) (w := (w.alloc (.cells #[.slice none 0 0] 70)).alloc (.cells #[U s] 22)) (by simp; omega) (by simp) o1 o2
      exact ⟨hk.at_.trans bS, (hl.below hB0).keep hk.below hg⟩) (fun _ => rfl)
    (fun pre W => (∃ v, Boxed W w.heap.size 70 v ∧ W.ownsRow (w.heap.size + 2) 61 2 v (spansOf pre).length (spanCells (spansOf pre))) ∧ Below w.heap.size w W)
    (fun _ _ _ => False) (Abide.conj ?abide (abide_below (Nat.le_refl _))) (fun _ => abide_false)
    ⟨⟨_, bO.alloc _, World.ownsRow_nil _ _ _ _⟩, hB0⟩
    (fun x => { tmps := #[U s, undef, .slice none 0 0, .pointer (some ⟨w.heap.size, 0, none⟩), .int .i64 (x : Int), undef, U s, .func (.func 77) #[] #[.pointer (some ⟨w.heap.size + 1, 0, none⟩)], .int .i64 (x : Int), undef, undef, undef, undef, undef, undef, undef, undef, undef, undef, undef, undef, undef, undef, undef, undef, undef, undef, undef, undef, undef, undef, undef, undef, undef, undef, undef, undef], defers := [] }) ?assign ?body ?done ?stop
  case abide =>
    rintro pre X Y row ⟨v, hv, hr⟩ hg' hrow
    exact ⟨v, boxed_abide (β := Unit) (by omega) (fun _ => v) () X Y row hv hg' hrow, row_abide (by omega) hr hg' hrow⟩
  case assign =>
    intro l x W K hK
    dsimp only [catVal]
    gi_wp2
    exact hK
  case body =>
    rintro l pre x W hsz ⟨⟨v, hv, hrow⟩, hB⟩ hp
    have hc := hv.cell
    have hf := hv.frozen
    have hpl : (spansOf pre).length + 1 ≤ 64 := by
      have h1 := hp.length_le
      have h2 := cats_length s
      have h3 := spansOf_length pre
      simp at h1; omega
    have hx : x < 64 := by
      obtain ⟨r, hr⟩ := hp
      exact cats_lt (s := s) (by rw [← hr]; simp)
    clear hp
    have hsz' : w.heap.size + 4 ≤ W.heap.size := by simp at hsz; omega
    clear hsz
    have hA3 : w.heap.size + 2 ≤ (W.alloc (.cells #[.int .i64 (x : Int), .int .i64 (x : Int)] 61)).heap.size := by rw [World.size_alloc]; omega
    have HS := Lib.hid (spansOf_snoc pre x)
    rcases List.eq_nil_or_concat (spansOf pre) with h0 | ⟨i, ⟨f, t⟩, h0⟩
    · rw [h0] at hrow HS
      rw [stepSpan_nil] at HS
      clear h0 hpl
      have hA1 : 0 + 1 ≤ maxLen := by decide
      have hA2 : (0 + 1) * 16 ≤ 140737488355328 := by decide
      rcases hrow.2 with ⟨rfl, _⟩ | ⟨g, cap, cur, rfl, _⟩
      · gi_wp2_with (gi_at_builtin; refine wpListIn_append_own _ rfl _ _ 70 rfl (w.heap.size + 2) 61 i0 (.agg #[.int .i64 0, .int .i64 0]) 2 16 Tryz.underlying70 hi hz0 hz1 hz2 rfl (by decide) _ _ _ rfl (hrow.alloc _) ⟨W.heap.size, 0, none⟩ 1 1 [.int .i64 (x : Int), .int .i64 (x : Int)] rfl rfl (cell_two_new _ _ _ _) (by simp [Value.oneCell']) hA1 hA2 hA3 ?_; intro v' w1 hown' hgrow _; obtain ⟨g', cap', rfl⟩ := ownsRow_succ hown'; obtain ⟨hv1, hv2, hr2, hk2, hb2⟩ := appended_keep (n0 := w.heap.size) (b := w.heap.size + 1) hv (by decide) hrow (by omega) (by omega) (by omega) (by omega) (by omega) (by omega) hown' hgrow; have hc1 := hv1.cell; have hf1 := hv1.frozen)
        exact ⟨hk2, hb2, ⟨_, hv2, by rw [HS.out]; exact hr2⟩, hB.trans hb2.below⟩
      · gi_wp2_with (gi_at_builtin; refine wpListIn_append_own _ rfl _ _ 70 rfl (w.heap.size + 2) 61 i0 (.agg #[.int .i64 0, .int .i64 0]) 2 16 Tryz.underlying70 hi hz0 hz1 hz2 rfl (by decide) _ _ _ rfl (hrow.alloc _) ⟨W.heap.size, 0, none⟩ 1 1 [.int .i64 (x : Int), .int .i64 (x : Int)] rfl rfl (cell_two_new _ _ _ _) (by simp [Value.oneCell']) hA1 hA2 hA3 ?_; intro v' w1 hown' hgrow _; obtain ⟨g', cap', rfl⟩ := ownsRow_succ hown'; obtain ⟨hv1, hv2, hr2, hk2, hb2⟩ := appended_keep (n0 := w.heap.size) (b := w.heap.size + 1) hv (by decide) hrow (by omega) (by omega) (by omega) (by omega) (by omega) (by omega) hown' hgrow; have hc1 := hv1.cell; have hf1 := hv1.frozen)
        exact ⟨hk2, hb2, ⟨_, hv2, by rw [HS.out]; exact hr2⟩, hB.trans hb2.below⟩
    · rw [List.concat_eq_append] at h0
      rw [h0] at hrow HS hpl
      have hne : ∃ g cap, v = .slice (some ⟨g, 0, none⟩) (i.length + 1) cap := by
        have hr' := hrow
        rw [List.length_append] at hr'
        exact ownsRow_succ hr'
      obtain ⟨g, cap, rfl⟩ := hne
      have hlen : (i ++ [(f, t)]).length = i.length + 1 := by simp
      rw [hlen] at hrow hpl
      have hcell : W.cell? ⟨g, i.length * 2 + 1, none⟩ = some (.int .i64 (t : Int)) := by
        rw [hrow.cellAt _ (by omega), spanCells_snoc, List.getElem?_append_right (by rw [spanCells_length]; omega), spanCells_length]
        simp
      have hfz := hrow.frozenAt (i.length * 2 + 1)
      clear h0 hlen
      have hA1 : i.length + 1 + 1 ≤ maxLen := by unfold maxLen; omega
      have hA2 : (i.length + 1 + 1) * 16 ≤ 140737488355328 := by omega
      have hgb : w.heap.size + 2 ≤ g := (hrow.lt g rfl).1
      by_cases htx : t + 1 = x
      · rw [stepSpan_next _ _ _ _ htx] at HS
        have htb : ((t : Int) == (x : Int) - 1) = true := by rw [beq_iff_eq]; omega
        have HX := Lib.hid htx
        clear htx
        obtain ⟨hst, hgr⟩ := hrow.stored (i.length * 2 + 1) (.int .i64 (x : Int))
        have hset : (spanCells (i ++ [(f, t)])).set (i.length * 2 + 1) (.int .i64 (x : Int)) = spanCells (i ++ [(f, x)]) := by
          rw [spanCells_snoc, spanCells_snoc, List.set_append_right _ _ (by rw [spanCells_length]; omega), spanCells_length]
          simp
        rw [hset] at hst
        have HST := Lib.hid hst
        have HGR := Lib.hid hgr
        clear hst hgr hset
        gi_wp2
        refine ⟨KeepsOthers.setCell _ _ _, (Keep.refl _ _ _).setCell (p := ⟨g, i.length * 2 + 1, none⟩) (by simp; omega) (by simp; omega) _, ⟨_, hv.kept HGR.out (by simp; omega), ?_⟩, hB.setCell (p := ⟨g, i.length * 2 + 1, none⟩) (by simp; omega) _⟩
        rw [HS.out]
        simpa using HST.out
      · rw [stepSpan_new _ _ _ _ htx] at HS
        have htb : ((t : Int) == (x : Int) - 1) = false := by rw [beq_eq_false_iff_ne]; omega
        have HX := Lib.hid htx
        clear htx
        gi_wp2_with (gi_at_builtin; refine wpListIn_append_own _ rfl _ _ 70 rfl (w.heap.size + 2) 61 i0 (.agg #[.int .i64 0, .int .i64 0]) 2 16 Tryz.underlying70 hi hz0 hz1 hz2 rfl (by decide) _ _ _ rfl (hrow.alloc _) ⟨W.heap.size, 0, none⟩ 1 1 [.int .i64 (x : Int), .int .i64 (x : Int)] rfl rfl (cell_two_new _ _ _ _) (by simp [Value.oneCell']) hA1 hA2 hA3 ?_; intro v' w1 hown' hgrow _; obtain ⟨g', cap', rfl⟩ := ownsRow_succ hown'; obtain ⟨hv1, hv2, hr2, hk2, hb2⟩ := appended_keep (n0 := w.heap.size) (b := w.heap.size + 1) hv (by decide) hrow (by omega) (by omega) (by omega) (by omega) (by omega) (by omega) hown' hgrow; have hc1 := hv1.cell; have hf1 := hv1.frozen)
        exact ⟨hk2, hb2, ⟨_, hv2, by rw [HS.out, spanCells_snoc]; simpa using hr2⟩, hB.trans hb2.below⟩
  case done =>
    rintro D ys W hD rfl ⟨⟨v, hv, hrow⟩, hB⟩ hK
    have hc := hv.cell
    gi_wp2
    refine ⟨by simp, .inl ⟨_, _, rfl, run_takeDeferred hK, ?_⟩⟩
    exact ⟨_, results_tmp rfl _ _ _, v, rfl, row_lower (ownsRow_putObj hrow _ hK rfl) (by omega), hB.trans ((Below.refl w.heap.size W).grown (grownBy_putObj' W D _) hB.size (fun k e => by cases e; simp at hD; omega))⟩
  case stop =>
    rintro D c pre W _ h _
    exact h.elim

/-- **set.spans** -/
theorem spans_any (s : BitVec 64) (w : World) (hg : gTop ≤ w.heap.size) (hl : Laid w) :
    Calls Tryz.prog 53 #[U s] w fun e W' =>
      ∃ v, e = .returned v ∧ W'.ownsRow w.heap.size 61 2 v (spansOf (cats s)).length (spanCells (spansOf (cats s))) ∧ Below w.heap.size w W' :=
  callsIn_wide.1 (spans_in 3 (Nat.le_refl _) s w hg hl)
end Go.Proofs.YtegjlgdbipfpaaaGreatDoor
