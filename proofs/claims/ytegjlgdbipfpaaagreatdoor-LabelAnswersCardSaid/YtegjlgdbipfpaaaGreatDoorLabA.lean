/-
  The package label: Need, With, Flows, Join, Meet, Raise.
-/
import Derived.Test.YtegjlgdbipfpaaaGreatDoorLaw5
import Derived.Deep.QuietTactic
import Derived.Deep.RegionWith
import Derived.Laws.Rows
import Derived.Laws.ResultCell
import Derived.BigQuiet
namespace Go.Proofs.YtegjlgdbipfpaaaGreatDoor
open Go Go.RowKit

/-- A label as the program's value. -/
abbrev Lab (s t : BitVec 64) : Value := .agg #[U s, U t]
theorem below1 (w : World) (o : Obj) : Below w.heap.size w (w.alloc o) := (Below.refl _ _).alloc (Nat.le_refl _) _
theorem below2 (w : World) (o o2 : Obj) : Below w.heap.size w ((w.alloc o).alloc o2) := (below1 w o).alloc (by simp) _
theorem below3 (w : World) (o o2 o3 : Obj) : Below w.heap.size w (((w.alloc o).alloc o2).alloc o3) := (below2 w o o2).alloc (by simp; omega) _
theorem lab_of {x y : Int} {s t : BitVec 64} (h1 : x = (s.toNat : Int)) (h2 : y = (t.toNat : Int)) : Ending.returned (.agg #[.int .u64 x, .int .u64 y]) = Ending.returned (Lab s t) := by rw [h1, h2]
/-- What is needed from (s, t) to (s', t'). -/
def need (s t s' t' : BitVec 64) : BitVec 64 := (s &&& ~~~s') ||| (t' &&& ~~~t)

theorem below2d (w : World) (o o2 : Obj) : Below w.heap.size w ((w.alloc o).alloc o2).drew := (below2 w o o2).drew
theorem heap_new2d (w : World) (a b : Obj) : ((w.alloc a).alloc b).drew.heap[w.heap.size + 1]? = some b := by
  have := World.alloc_heap_new (w.alloc a) b
  rw [World.size_alloc] at this
  exact this
theorem info_label : (Tryz.prog.info? 24).map (·.size) = some 2 := by kernel_rfl
/-- A result that is a label lies in a block of its own. -/
theorem lab_results {fn : Func} {p : Tmp} (h : fn.results = #[.cell p 24]) (tmps : Array Value) (w : World) (g : Nat) (x y : Value) (t : TypeId) (fr : Nat × Nat)
    (hp : tmps.getD p undef = .pointer (some ⟨g, 0, none⟩)) (hg : w.heap[g]? = some (.cells #[x, y] t fr)) : (results fn tmps).run Tryz.prog w = .ok (.agg #[x, y]) w :=
  results_cell_row h tmps w g t _ fr _ hp hg Tryz.underlying24 rfl info_label
theorem res41 : Tryz.f16.results = #[.cell 4 24] := by kernel_rfl
theorem res40 : Tryz.f14.results = #[.cell 4 24] := by kernel_rfl
theorem res44 : Tryz.f18.results = #[.cell 6 24] := by kernel_rfl
theorem heap_new3 (w : World) (a b c : Obj) : (((w.alloc a).alloc b).alloc c).heap[w.heap.size + 1 + 1]? = some c := by
  have := World.alloc_heap_new ((w.alloc a).alloc b) c
  simpa using this
set_option maxRecDepth 100000 in
theorem need_any (s t s' t' : BitVec 64) (w : World) : Calls Tryz.prog 12 #[Lab s t, Lab s' t'] w fun e w' => e = .returned (U (need s t s' t')) ∧ Below w.heap.size w w' := by
  have h1 := fun W => (minus_any s s' W).mono fun e w' h => (⟨h.1, h.2.symm⟩ : e = .returned (U (s &&& ~~~s')) ∧ w' = W)
  have h2 := fun W => (minus_any t' t W).mono fun e w' h => (⟨h.1, h.2.symm⟩ : e = .returned (U (t' &&& ~~~t)) ∧ w' = W)
  have ho := or_bv (s &&& ~~~s') (t' &&& ~~~t)
  have hn : need s t s' t' = (s &&& ~~~s') ||| (t' &&& ~~~t) := rfl
  rw [← hn] at ho
  obtain ⟨m, hm⟩ : ∃ m, s &&& ~~~s' = m := ⟨_, rfl⟩
  obtain ⟨k, hk⟩ : ∃ k, t' &&& ~~~t = k := ⟨_, rfl⟩
  simp only [hm] at h1
  simp only [hk] at h2
  rw [hm, hk] at ho
  have H1 := Lib.hid h1
  have H2 := Lib.hid h2
  have HO := Lib.hid ho
  clear h1 h2 ho hn hm hk
  go_enter Tryz.func12, Tryz.ntmps12
  go_wp2_with fail
  go_quiet (first | (go_at_call 33; exact Calls.quiet_of_same (H1.out _)) | (go_at_call 33; exact Calls.quiet_of_same (H2.out _)))
  go_wp2
  go_ret
  exact ⟨ret_of (congrArg (Value.int .u64) HO.out), below_drewN (below2 w _ _) nq⟩

theorem with_any (s t s' t' o : BitVec 64) (w : World) : Calls Tryz.prog 11 #[Lab s t, Lab s' t', U o] w fun e w' => e = .returned (.bool (win (need s t s' t') o)) ∧ Below w.heap.size w w' := by
  have h1 := fun W => need_any s t s' t' W
  obtain ⟨m, hm⟩ : ∃ m, need s t s' t' = m := ⟨_, rfl⟩
  simp only [hm] at h1
  rw [hm]
  clear hm
  have h2 : ∀ W, Calls Tryz.prog 32 #[U m, U o] W fun e w' => e = .returned (.bool (win m o)) ∧ W = w' := fun W => within_win m o W
  have H1 := Lib.hid h1
  have H2 := Lib.hid h2
  clear h1 h2
  go_enter Tryz.func11, Tryz.ntmps11
  go_wp2_with fail
  refine (H1.out _).mono ?_
  rintro e w1 ⟨rfl, hB⟩
  go_wp2_with fail
  refine (H2.out _).mono ?_
  rintro e w' ⟨rfl, rfl⟩
  go_wp2
  go_ret
  exact ⟨rfl, (below2 w _ _).trans (hB.mono (below2 w _ _).size)⟩
theorem flows_any (s t s' t' : BitVec 64) (w : World) : Calls Tryz.prog 9 #[Lab s t, Lab s' t'] w fun e w' => e = .returned (.bool (need s t s' t' == 0#64)) ∧ Below w.heap.size w w' := by
  have h1 := fun W => need_any s t s' t' W
  obtain ⟨m, hm⟩ : ∃ m, need s t s' t' = m := ⟨_, rfl⟩
  simp only [hm] at h1
  rw [hm]
  clear hm
  have HZ := Lib.hid (zero_bv m)
  have H1 := Lib.hid h1
  clear h1
  go_enter Tryz.func9, Tryz.ntmps9
  go_wp2_with fail
  refine (H1.out _).mono ?_
  rintro e w1 ⟨rfl, hB⟩
  go_wp2
  go_ret
  exact ⟨ret_of (congrArg Value.bool HZ.out), (below2 w _ _).trans (hB.mono (below2 w _ _).size)⟩

set_option maxRecDepth 100000 in
theorem join_any (s t s' t' : BitVec 64) (w : World) : Calls Tryz.prog 14 #[Lab s t, Lab s' t'] w fun e w' => e = .returned (Lab (s ||| s') (t &&& t')) ∧ Below w.heap.size w w' := by
  have h1 := or_bv s s'
  have h2 := and_bv t t'
  obtain ⟨m, hm⟩ : ∃ m, s ||| s' = m := ⟨_, rfl⟩
  obtain ⟨k, hk⟩ : ∃ k, t &&& t' = k := ⟨_, rfl⟩
  rw [hm] at h1 ⊢
  rw [hk] at h2 ⊢
  have H1 := Lib.hid h1
  have H2 := Lib.hid h2
  clear h1 h2 hm hk
  go_enter Tryz.func14, Tryz.ntmps14
  go_wp2
  exact bodyPost_ret (lab_results res40 _ _ _ _ _ _ _ rfl (heap_new3 w _ _ _)) rfl ⟨lab_of H1.out H2.out, below3 w _ _ _⟩
set_option maxRecDepth 100000 in
theorem meet_any (s t s' t' : BitVec 64) (w : World) : Calls Tryz.prog 16 #[Lab s t, Lab s' t'] w fun e w' => e = .returned (Lab (s &&& s') (t ||| t')) ∧ Below w.heap.size w w' := by
  have h1 := and_bv s s'
  have h2 := or_bv t t'
  obtain ⟨m, hm⟩ : ∃ m, s &&& s' = m := ⟨_, rfl⟩
  obtain ⟨k, hk⟩ : ∃ k, t ||| t' = k := ⟨_, rfl⟩
  rw [hm] at h1 ⊢
  rw [hk] at h2 ⊢
  have H1 := Lib.hid h1
  have H2 := Lib.hid h2
  clear h1 h2 hm hk
  go_enter Tryz.func16, Tryz.ntmps16
  go_wp2
  exact bodyPost_ret (lab_results res41 _ _ _ _ _ _ _ rfl (heap_new3 w _ _ _)) rfl ⟨lab_of H1.out H2.out, below3 w _ _ _⟩
set_option maxRecDepth 100000 in
theorem raise_any (s t m d : BitVec 64) (w : World) : Calls Tryz.prog 18 #[Lab s t, U m, U d] w fun e w' => e = .returned (Lab (s ||| m) (t &&& ~~~d)) ∧ Below w.heap.size w w' := by
  have h1 := or_bv s m
  have h2 := fun W => (minus_any t d W).mono fun e w' h => (⟨h.1, h.2.symm⟩ : e = .returned (U (t &&& ~~~d)) ∧ w' = W)
  obtain ⟨x, hx⟩ : ∃ x, s ||| m = x := ⟨_, rfl⟩
  obtain ⟨k, hk⟩ : ∃ k, t &&& ~~~d = k := ⟨_, rfl⟩
  rw [hx] at h1 ⊢
  simp only [hk] at h2 ⊢
  have H1 := Lib.hid h1
  have H2 := Lib.hid h2
  clear h1 h2 hx hk
  go_enter Tryz.func18, Tryz.ntmps18
  go_wp2_with fail
  go_region_with (go_at_call 33; refine (H2.out _).mono ?_; rintro e w' ⟨rfl, rfl⟩)
  all_goals
    go_wp2
    exact bodyPost_ret (lab_results res44 _ _ _ _ _ _ _ rfl (heap_new2d w _ _)) rfl ⟨lab_of H1.out rfl, below2d w _ _⟩
end Go.Proofs.YtegjlgdbipfpaaaGreatDoor
