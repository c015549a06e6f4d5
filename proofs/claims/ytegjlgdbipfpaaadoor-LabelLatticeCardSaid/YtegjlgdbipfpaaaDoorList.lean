/-
  slices.AppendSeq and slices.Collect over set.each; set.List.
-/
import Derived.Test.YtegjlgdbipfpaaaDoorEach
namespace Go.Proofs.YtegjlgdbipfpaaaDoor
open Go Go.RowKit Go.Shelf
attribute [local go_sem] Oper.semAt_some wide_fn wide_depth

theorem info_int : (Tryd.prog.info? 3).map (fun i => (i.zero, i.size, i.bytes)) = some (some (.int .i64 0), 1, 8) := by kernel_rfl

/-- A slice of numbers of the call's own. -/
def ints (L : List Nat) : List Value := L.map fun (c : Nat) => Value.int .i64 (c : Int)

theorem ints_snoc (L : List Nat) (x : Nat) : ints (L ++ [x]) = ints L ++ [.int .i64 (x : Int)] := by simp [ints]

/-- 'x = append(x, ..)' by a box: what it keeps of an iterator's block. -/
theorem appended_keep {W w1 : World} {n0 b B Bx : Nat} {t e : TypeId} {size k m : Nat} {v v' : Value} {xs ys : List Value} {tmp : Obj}
    (hv : Boxed W Bx t v) (hte : t ≠ e) (hrow : W.ownsRow B e size v k xs) (hbB : b < B) (hnB : n0 ≤ B) (hBx : b ≠ Bx) (hnx : n0 ≤ Bx) (hbW : b < W.heap.size) (hnW : n0 ≤ W.heap.size)
    (hown' : w1.ownsRow B e size v' m ys) (hgrow : (W.alloc tmp).grownBy w1 v.ownBlock) :
    Boxed w1 Bx t v ∧ Boxed (w1.setCell ⟨Bx, 0, none⟩ v') Bx t v' ∧ (w1.setCell ⟨Bx, 0, none⟩ v').ownsRow B e size v' m ys ∧ KeepsOthers W (w1.setCell ⟨Bx, 0, none⟩ v') ∧ Keep n0 b W (w1.setCell ⟨Bx, 0, none⟩ v') := by
  have hv1 : Boxed w1 Bx t v := (hv.alloc tmp).kept hgrow (hv.not_row hte hrow)
  refine ⟨hv1, hv1.set v', hown'.kept (grownBy_setCell' w1 Bx v') (.inr (hv1.not_row hte hown').symm), ?_, ?_⟩
  · refine ((KeepsOthers.alloc W tmp).trans (KeepsOthers.of_grownBy hgrow fun j o ej hj => ?_)).trans (KeepsOthers.setCell _ _ _)
    rcases (hrow.alloc tmp).2 with ⟨rfl, _⟩ | ⟨g, cap, cur, rfl, _, hgb, _⟩
    · simp [Value.ownBlock] at ej
    · obtain rfl : g = j := by simpa [Value.ownBlock] using ej
      rw [hgb] at hj; cases hj; rfl
  · refine (((Keep.refl n0 b W).alloc (by omega) (by omega) tmp).grown hgrow (by simp; omega) (by simp; omega) fun j ej => ?_).setCell (p := ⟨Bx, 0, none⟩) (by simp; omega) (by simp; omega) v'
    rcases hrow.2 with ⟨rfl, _⟩ | ⟨g, cap, cur, rfl, hb, _, _⟩
    · simp [Value.ownBlock] at ej
    · obtain rfl : g = j := by simpa [Value.ownBlock] using ej
      omega

set_option maxRecDepth 100000 in
set_option maxHeartbeats 2000000 in
theorem appendSeq_any (n b n0 : Nat) (hn : 3 ≤ n) (s : BitVec 64) (w : World) (hn0 : gTop ≤ n0) (hn0b : n0 ≤ b) (hb : b < w.heap.size) (hbx : Boxed w b 23 (U s)) (hl : Laid w) :
    CallsIn Fence.wide n Tryd.prog 70 #[.slice none 0 0, .func (.func 71) #[] #[.pointer (some ⟨b, 0, none⟩)]] w fun e W' =>
      ∃ v, e = .returned v ∧ W'.ownsRow w.heap.size 3 1 v (cats s).length (ints (cats s)) ∧ Below n0 w W' := by
  have h1 : 1 ≤ n := by omega
  obtain ⟨i0, hi, hz0, hz1, hz2⟩ := info_parts info_int
  refine callsIn_of_wp_marks Tryd.func70 rfl trivial ?_ rfl
  simp only [Tryd.ntmps70, List.size_toArray, List.length_cons, List.length_nil, Nat.reduceAdd, Nat.reduceSub, Array.replicate_succ, Array.replicate_zero, List.push_toArray, List.append_toArray, List.nil_append, List.cons_append]
  gi_wp2
  have bO := Boxed.new w 22 (.slice none 0 0)
  refine wpIn_rangeB rfl h1 (gf := 71) (lb := #[.pointer (some ⟨b, 0, none⟩)]) rfl trivial (enters_of Tryd.func71 (by kernel_rfl) rfl)
    (each_seq (n - 1) b n0 s hn0 hn0b) (by simp; omega) (by simp; omega) hn0b (fun h k => h.trans k) (keep_put (by simp; omega) (by simp; omega))
    (fun o1 o2 => by
      have hk := keep_two (n0 := n0) (b := b) (w := w.alloc (.cells #[.slice none 0 0] 22)) (by simp; omega) (by simp; omega) o1 o2
      exact ⟨hk.at_.trans ((Below.heap_alloc w _ b hb).trans hbx), (hl.below ((Below.refl _ w).alloc (Nat.le_refl _) _)).keep hk.below hn0⟩) (fun _ => rfl)
    (fun pre W => (∃ v, Boxed W w.heap.size 22 v ∧ W.ownsRow w.heap.size 3 1 v pre.length (ints pre)) ∧ Below n0 w W)
    (fun _ _ _ => False) (Abide.conj ?abide (abide_below (by omega))) (fun _ => abide_false)
    ⟨⟨_, bO, World.ownsRow_nil (w.alloc _) _ _ _⟩, (Below.refl n0 w).alloc (by omega) _⟩
    (fun x => { tmps := #[.slice none 0 0, .func (.func 71) #[] #[.pointer (some ⟨b, 0, none⟩)], .pointer (some ⟨w.heap.size, 0, none⟩), undef, .slice none 0 0, .int .i64 (x : Int), .func (.func 71) #[] #[.pointer (some ⟨b, 0, none⟩)], .int .i64 (x : Int), undef, undef, undef, undef, undef], defers := [] }) ?assign ?body ?done ?stop
  case abide =>
    rintro pre X Y row ⟨v, hv, hr⟩ hg hrow
    exact ⟨v, boxed_abide (β := Unit) (by omega) (fun _ => v) () X Y row hv hg hrow, row_abide hb hr hg hrow⟩
  case assign =>
    intro l x W K hK
    dsimp only [catVal]
    gi_wp2
    exact hK
  case body =>
    rintro l pre x W hsz ⟨⟨v, hv, hrow⟩, hB⟩ hp
    have hc := hv.cell
    have hf := hv.frozen
    have hpl : pre.length + 1 ≤ 64 := by
      have h1 := hp.length_le
      have h2 := cats_length s
      simp at h1; omega
    clear hp
    rw [World.size_alloc] at hsz
    have hA1 : pre.length + 1 ≤ maxLen := by unfold maxLen; omega
    have hA2 : (pre.length + 1) * 8 ≤ 140737488355328 := by omega
    have hA3 : w.heap.size ≤ (W.alloc (.cells #[.int .i64 (x : Int)] 3)).heap.size := by rw [World.size_alloc]; omega
    gi_wp2_with (gi_at_builtin; refine wpListIn_append_own _ rfl _ _ 22 rfl w.heap.size 3 i0 (.int .i64 0) 1 8 Tryd.underlying22 hi hz0 hz1 hz2 rfl (by decide) _ _ _ rfl (hrow.alloc _) ⟨W.heap.size, 0, none⟩ 1 1 [.int .i64 (x : Int)] rfl rfl (cell_one_new _ _ _) (by simp [Value.oneCell']) hA1 hA2 hA3 ?_; intro v' w1 hown' hgrow _; obtain ⟨g', cap', rfl⟩ := ownsRow_succ hown'; obtain ⟨hv1, hv2, hr2, hk2, hb2⟩ := appended_keep (n0 := n0) (b := b) hv (by decide) hrow hb (by omega) (by omega) (by omega) (by omega) (by omega) hown' hgrow; have hc1 := hv1.cell; have hf1 := hv1.frozen)
    exact ⟨hk2, hb2, ⟨_, hv2, by rw [ints_snoc, List.length_append]; exact hr2⟩, hB.trans hb2.below⟩
  case done =>
    rintro D ys W hD rfl ⟨⟨v, hv, hrow⟩, hB⟩ hK
    have hc := hv.cell
    gi_wp2
    refine ⟨by simp, .inl ⟨_, _, rfl, run_takeDeferred hK, ?_⟩⟩
    exact ⟨_, results_tmp rfl _ _ _, v, rfl, ownsRow_putObj hrow _ hK rfl, hB.trans ((Below.refl n0 W).grown (grownBy_putObj' W D _) (by have := hB.size; omega) (fun k e => by cases e; simp at hD; omega))⟩
  case stop =>
    rintro D c pre W _ h _
    exact h.elim
theorem row_lower {W : World} {base base' : Nat} {e : TypeId} {size k : Nat} {v : Value} {xs : List Value} (h : W.ownsRow base e size v k xs) (hb : base' ≤ base) : W.ownsRow base' e size v k xs := by
  refine ⟨h.1, ?_⟩
  rcases h.2 with h0 | ⟨g, cap, cur, hv, hge, hr⟩
  · exact .inl h0
  · exact .inr ⟨g, cap, cur, hv, Nat.le_trans hb hge, hr⟩

theorem collect_any (b n0 : Nat) (s : BitVec 64) (w : World) (hn0 : gTop ≤ n0) (hn0b : n0 ≤ b) (hb : b < w.heap.size) (hbx : Boxed w b 23 (U s)) (hl : Laid w) :
    Calls Tryd.prog 55 #[.func (.func 71) #[] #[.pointer (some ⟨b, 0, none⟩)]] w fun e W' =>
      ∃ v, e = .returned v ∧ W'.ownsRow w.heap.size 3 1 v (cats s).length (ints (cats s)) ∧ Below n0 w W' := by
  have H := callsIn_wide.1 (appendSeq_any 3 b n0 (Nat.le_refl _) s w hn0 hn0b hb hbx hl)
  go_enter Tryd.func55, Tryd.ntmps55
  go_wp2_with (go_at_call 70; refine H.mono ?_; rintro e w' ⟨v, rfl, hr, hbl⟩)
  go_ret
  exact ⟨v, rfl, hr, hbl⟩

/-- **set.List**: a slice of the call's own that holds the set's categories, rising. -/
theorem list_any (s : BitVec 64) (w : World) (hl : Laid w) (hg : gTop ≤ w.heap.size) :
    Calls Tryd.prog 22 #[U s] w fun e W' =>
      ∃ v, e = .returned v ∧ W'.ownsRow w.heap.size 3 1 v (cats s).length (ints (cats s)) ∧ Below w.heap.size w W' := by
  have hB : Below w.heap.size w (w.alloc (.cells #[U s] 23)) := (Below.refl _ w).alloc (Nat.le_refl _) _
  have H := collect_any w.heap.size w.heap.size s (w.alloc (.cells #[U s] 23)) hg (Nat.le_refl _) (by simp) (Boxed.new w _ _) (hl.below hB)
  have HB := Lib.hid hB
  clear hB
  go_enter Tryd.func22, Tryd.ntmps22
  go_wp2_with fail
  refine (each_any s _).mono ?_
  rintro e w' ⟨rfl, rfl⟩
  go_wp2_with fail
  refine H.mono ?_
  rintro e w' ⟨v, rfl, hr, hbl⟩
  go_wp2
  go_ret
  refine ⟨v, rfl, ?_, HB.out.trans hbl⟩
  rw [World.size_alloc] at hr
  exact row_lower hr (by omega)
end Go.Proofs.YtegjlgdbipfpaaaDoor
