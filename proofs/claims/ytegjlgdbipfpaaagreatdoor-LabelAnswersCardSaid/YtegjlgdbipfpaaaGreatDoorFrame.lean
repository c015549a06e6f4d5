/-
  What the rows' lists of variables give ('Laid'), and a world for the witnesses.
-/
import Derived.Test.YtegjlgdbipfpaaaGreatDoorCards
import Derived.Test.YtegjlgdbipfpaaaGreatDoorTie
import Derived.Test.YtegjlgdbipfpaaaGreatDoorOf
import Derived.WalkKit
import Derived.ProofKit
import Derived.OpenShut
import Derived.Deep.DeepHandedRow
import Derived.Deep.DeepWitnessRowRef
import Derived.Lib.LaidTab
import Derived.Lib.LaidIn
import Derived.Stop.LaidErr
import Derived.Shelf.Vars
import Derived.Lib.LaidU8
namespace Go.Proofs.YtegjlgdbipfpaaaGreatDoor
open Go Go.RowKit Go.ChangeShapes Go.WideShapes Go.ChangeAt Go.Lib Go.Shelf

theorem own : ownKnob Tryz.prog.godebug = none := by kernel_rfl
theorem star : "*" ++ "errors.errorString" = "*errors.errorString" := by decide
theorem rowErr (u : TypeId) (h : Tryz.prog.typeName? 3 u = some "*errors.errorString") : u = 134 :=
  typeName_ptr_named (nm := "errors.errorString") (by rw [star]; kernel_rfl) (by kernel_rfl) (by decide) u (by rw [star]; exact h)

/-- The list of the rows. -/
def rowLaid : List (String × DataW Unit) := [("math/bits.deBruijn32tab", Rows.laid_math_bits_deBruijn32tab), ("math/bits.deBruijn64tab", Rows.laid_math_bits_deBruijn64tab), ("internal/strconv.uint64pow10", Rows.laid_internal_strconv_uint64pow10), ("unicode/utf8.acceptRanges", Rows.laid_unicode_utf8_acceptRanges), ("strconv.ErrRange", Rows.laid_strconv_ErrRange), ("strconv.ErrSyntax", Rows.laid_strconv_ErrSyntax), ("unicode/utf8.first", Rows.laid_unicode_utf8_first)]

theorem gTab : Tryz.prog.globalNamed "math/bits.deBruijn64tab" = some 3 := by kernel_rfl
theorem gTabType : (Tryz.prog.globals[3]?).map (·.type) = some 118 := by kernel_rfl
theorem cellsTab : Tryz.prog.cellsOf 118 = 64 := by kernel_rfl
theorem cellsByte : Tryz.prog.cellsOf 5 = 1 := by kernel_rfl

theorem laid_tab {W : World} (h : laidMet Tryz.prog rowLaid W) : TabAt 3 Lib.deBruijn64tab W := by
  have ht : Lib.TabIs Tryz.prog W "math/bits.deBruijn64tab" .u8 (Lib.deBruijn64tab.map fun (n : Nat) => (n : Int)) :=
    Lib.tabIs_of_head gTab gTabType Tryz.underlying118 Tryz.underlying5 cellsByte cellsTab h.tail
  intro j hj
  have := ht.cell gTab j (by simpa using hj)
  rw [this]
  simp [List.getD_eq_getElem?_getD, hj]

theorem laid_of {W : World} (h : laidMet Tryz.prog rowLaid W) (hs : W.ShapedOpen Tryz.prog) : Laid W := by
  obtain ⟨a0, t0, hv0, _, _, _⟩ := laid_sentinel (g := 5) h.tail.tail.tail.tail (by kernel_rfl) (by kernel_rfl) Tryz.underlying89 rowErr Tryz.underlying134 Tryz.underlying136 rfl rfl Tryz.underlying9 (by kernel_rfl) (by kernel_rfl)
  obtain ⟨a1, t1, hv1, _, _, _⟩ := laid_sentinel (g := 4) h.tail.tail.tail.tail.tail (by kernel_rfl) (by kernel_rfl) Tryz.underlying89 rowErr Tryz.underlying134 Tryz.underlying136 rfl rfl Tryz.underlying9 (by kernel_rfl) (by kernel_rfl)
  refine ⟨laid_tab h, ⟨_, _, World.var?_cell (by kernel_rfl) hv1 0⟩, ⟨_, _, World.var?_cell (by kernel_rfl) hv0 0⟩, ?_⟩
  exact cell_of_shapedOpen_int (t := 3) (zero := #[.int .i64 0]) hs (of_decide_eq_true (by kernel_rfl)) (by kernel_rfl) (by kernel_rfl) (by kernel_rfl) (by kernel_rfl) Tryz.underlying3

theorem laid_size {W : World} (h : Laid W) : gTop ≤ W.heap.size := by
  obtain ⟨a, ⟨s, s', hs⟩, ⟨r, r', hr⟩, ⟨m, hm⟩⟩ := h
  have h1 := World.block_lt_of_cell? W _ hs
  have h2 := World.block_lt_of_cell? W _ hr
  have h3 := World.block_lt_of_cell? W _ hm
  have h4 := World.block_lt_of_cell? W _ (a 0 (by decide))
  simp only at h1 h2 h3 h4
  unfold gTop
  omega

theorem laidOut : laidOutB Tryz.prog = true := by kernel_rfl

/-- A slice of numbers that came in reads as a list. -/
theorem ints_of {H : Type} {enc : TypeId × Value → H} {W : World} {a : Option Addr} {len cap fuel : Nat} {x : DataW H × List MemPlace}
    (h : DataW.trod enc Tryz.prog W 0 (fun _ => true) true fuel 48 [.slice a len cap] = some x) : ∃ L : List Int, L.length = len ∧ IntsAt W (.slice a len cap) L ∧ len ≤ maxLen := by
  rcases open_ints Tryz.underlying48 Tryz.underlying3 (by kernel_rfl) h with ⟨hcs, hx⟩ | ⟨a', len', cap', zs, hcs, _, hl, hm, hz, hx, hcell, hwz⟩
  · simp only [List.cons.injEq, Value.slice.injEq, and_true] at hcs
    obtain ⟨rfl, rfl, rfl⟩ := hcs
    exact ⟨[], rfl, .inl ⟨rfl, none, 0, rfl⟩, by decide⟩
  · simp only [List.cons.injEq, Value.slice.injEq, and_true] at hcs
    obtain ⟨rfl, rfl, rfl⟩ := hcs
    simp only [if_true] at hz
    have hlen : (zs.take len).length = len := by rw [List.length_take]; omega
    refine ⟨zs.take len, hlen, ?_, by omega⟩
    by_cases h0 : len = 0
    · subst h0
      exact .inl ⟨by simp, _, _, rfl⟩
    · obtain ⟨b, off, rfl, hc⟩ := ints_at hcell (by omega)
      refine .inr ⟨b, off, cap, by rw [hlen], fun j hj => ?_⟩
      rw [hlen] at hj
      have := hc j (by omega)
      rw [this]
      simp [List.getD_eq_getElem?_getD, hj]

/-- A uint64 is a set. -/
theorem set_of {x : Int} (h : (Lit.int .u64 x).wf = true) : ∃ s : BitVec 64, x = (s.toNat : Int) := by
  have e1 : IntKind.u64.min = 0 := rfl
  have e2 : IntKind.u64.max = 18446744073709551615 := by decide
  simp [Lit.wf, e1, e2] at h
  exact ⟨BitVec.ofNat 64 x.toNat, by rw [BitVec.toNat_ofNat]; omega⟩

/-- A world for the witness: the settled one; two blocks more (the errors' structs); the listed variables hold what their initialisers lay. -/
noncomputable def laidWorld (os : Os) (blocks : Array Obj) : World :=
  let N := (World.settled Tryz.prog os).heap.size
  let w0 := World.holding Tryz.prog os ⟨#[.cells #[.string ⟨#[118, 97, 108, 117, 101, 32, 111, 117, 116, 32, 111, 102, 32, 114, 97, 110, 103, 101]⟩] 136, .cells #[.string ⟨#[105, 110, 118, 97, 108, 105, 100, 32, 115, 121, 110, 116, 97, 120]⟩] 136] ++ blocks, #[], []⟩
  let put (h : Array Obj) (g : Nat) (cs : Array Value) : Array Obj := h.modify g fun
    | .cells _ t frozen => .cells cs t frozen
    | o => o
  let h0 := put (put w0.heap 5 #[.iface 134 (.pointer (some ⟨N, 0, none⟩))]) 4 #[.iface 134 (.pointer (some ⟨N + 1, 0, none⟩))]
  let h1 := put h0 1 (Lib.firstTab.map fun z => Value.int .u8 z).toArray
  let h2 := put h1 2 ((List.range 16).flatMap fun i => [Value.int .u8 (Lib.accLo i), Value.int .u8 (Lib.accHi i)]).toArray
  let h3 := put h2 3 (Lib.deBruijn64tab.map fun (n : Nat) => Value.int .u8 (n : Int)).toArray
  let h4 := put h3 7 (Lib.deBruijn32tab.map fun (n : Nat) => Value.int .u8 (n : Int)).toArray
  let h5 := put h4 6 ((List.range 20).map fun (n : Nat) => Value.int .u64 (10 ^ n : Int)).toArray
  { w0 with heap := h5 }

set_option maxRecDepth 100000 in
theorem laid_met (os : Os) (args : Array Value) : laidMet Tryz.prog rowLaid ((laidWorld os #[]).forCall (fun _ _ => 0) ⟨#[], args, []⟩).memory :=
  laidMet_of_run' 8 (by kernel_rfl) (by kernel_rfl)
end Go.Proofs.YtegjlgdbipfpaaaGreatDoor
