/-
  concordatlaw07.alive: it answers true.
-/
import Derived.Test.YtegjlgdbipfpaaaGreatDoorLabF
import Derived.Test.YtegjlgdbipfpaaaGreatDoorLabD
import Derived.Deep.RegionHeld3
namespace Go.Proofs.YtegjlgdbipfpaaaGreatDoor
open Go Go.RowKit

theorem ofLE_les (s : BitVec 64) : ofLE (les s 8) = s.toNat := by
  have hs := s.isLt
  have e : les s 8 = [le s 0, le s 1, le s 2, le s 3, le s 4, le s 5, le s 6, le s 7] := rfl
  rw [e]
  simp only [ofLE, le]
  omega
theorem les_lt (s : BitVec 64) (n : Nat) : ∀ x ∈ les s n, x < 256 := by
  intro x hx
  obtain ⟨k, _, rfl⟩ := List.mem_map.1 hx
  exact Nat.mod_lt _ (by decide)
/-- label.From over label.Bytes. -/
theorem lfrom_bytes (s t : BitVec 64) (v : Value) (base : Nat) (w : World) (h : w.ownsRow base 5 1 v 16 (byteRow (les s 8 ++ les t 8))) :
    Calls Tryz.prog 5 #[v] w fun e w' => e = .returned (.tuple #[Lab s t, .bool true]) ∧ Below w.heap.size w w' := by
  obtain ⟨g, cap, rfl, hc⟩ := byteRow_cells h (by decide)
  obtain ⟨hgl, hcap⟩ := row_cap h
  have hcell : ∀ j, j < 16 → w.cell? ⟨g, 0 + j, none⟩ = some (.int .u8 (nthB (les s 8 ++ les t 8) j : Int)) := by
    intro j hj
    have hlen : (les s 8 ++ les t 8).length = 16 := by rw [List.length_append, les_length, les_length]
    have := hc j (.int .u8 (nthB (les s 8 ++ les t 8) j : Int)) (by
      unfold byteRow nthB
      rw [List.getElem?_map, List.getElem?_eq_getElem (by omega)]
      rfl)
    rw [Addr.add_lit] at this
    exact this
  have := lfrom_ok g 0 cap (les s 8) (les t 8) w (les_length _ _) (les_length _ _) (les_lt s 8) (les_lt t 8) hgl hcap hcell
  rw [ofLE_les, ofLE_les] at this
  exact this

/-- A label in a block of its own. -/
def Box2 (W : World) (b : Nat) (x y : Value) : Prop := W.heap[b]? = some (.cells #[x, y] 24)
theorem Box2.c0 {W : World} {b : Nat} {x y : Value} (h : Box2 W b x y) : W.cell? ⟨b, 0, none⟩ = some x := cell_of_row _ _ _ _ _ _ h
theorem Box2.c1 {W : World} {b : Nat} {x y : Value} (h : Box2 W b x y) : W.cell? ⟨b, 1, none⟩ = some y := cell_of_row _ _ _ _ _ _ h
theorem Box2.below {W W' : World} {b : Nat} {x y : Value} (h : Box2 W b x y) (hb : Below W.heap.size W W') : Box2 W' b x y := (hb.block _ (Array.getElem?_eq_some_iff.1 h).1).trans h
theorem Box2.alloc {W : World} {b : Nat} {x y : Value} (h : Box2 W b x y) (o : Obj) : Box2 (W.alloc o) b x y := (Below.heap_alloc _ _ _ (Array.getElem?_eq_some_iff.1 h).1).trans h
theorem Box2.new (W : World) (x y : Value) : Box2 (W.alloc (.cells #[x, y] 24)) W.heap.size x y := World.alloc_heap_new W _

abbrev lit2 (x y : Int) : Value := .agg #[.int .u64 x, .int .u64 y]
theorem lread_lit (w : World) (hg : gTop ≤ w.heap.size) (hl : Laid w) :
    Calls Tryz.prog 7 #[.string ⟨#[115, 58, 48, 45, 49, 32, 116, 58, 110, 111, 110, 101]⟩] w fun e w' => e = .returned (.tuple #[lit2 3 0, .bool true]) ∧ Below w.heap.size w w' := by
  have hs : labText (showL 3#64) (showL 0#64) = [115, 58, 48, 45, 49, 32, 116, 58, 110, 111, 110, 101] := by rw [showL_eq, showL_eq]; decide +kernel
  refine (lread_any [115, 58, 48, 45, 49, 32, 116, 58, 110, 111, 110, 101] (by decide) w hg hl).mono fun e w' ⟨hr, hb⟩ => ⟨?_, hb⟩
  rcases hr with ⟨a, b, h, he⟩ | ⟨h, _⟩
  · obtain ⟨h1, h2⟩ := labPost_inj (h.trans hs.symm)
    subst h1 h2
    exact he
  · exact absurd hs (h _ _)
theorem lshow_lit (w : World) (hg : gTop ≤ w.heap.size) (hl : Laid w) :
    Calls Tryz.prog 23 #[lit2 3 0] w fun e w' => e = .returned (.string ⟨#[115, 58, 48, 45, 49, 32, 116, 58, 110, 111, 110, 101]⟩) ∧ Below w.heap.size w w' := by
  have hs : labText (showL 3#64) (showL 0#64) = [115, 58, 48, 45, 49, 32, 116, 58, 110, 111, 110, 101] := by rw [showL_eq, showL_eq]; decide +kernel
  have := lshow_any 3#64 0#64 w hg hl
  rw [hs] at this
  exact this
theorem lbytes_lit (w : World) : Calls Tryz.prog 21 #[lit2 3 0] w fun e w' =>
    ∃ v, e = .returned v ∧ w'.ownsRow w.heap.size 5 1 v 16 (byteRow (les 3#64 8 ++ les 0#64 8)) ∧ Below w.heap.size w w' := lbytes_any 3#64 0#64 w
theorem lfrom_lit (v : Value) (base : Nat) (w : World) (h : w.ownsRow base 5 1 v 16 (byteRow (les 3#64 8 ++ les 0#64 8))) :
    Calls Tryz.prog 5 #[v] w fun e w' => e = .returned (.tuple #[lit2 3 0, .bool true]) ∧ Below w.heap.size w w' := lfrom_bytes 3#64 0#64 v base w h
theorem flows_ab (w : World) : Calls Tryz.prog 9 #[lit2 2 0, lit2 3 0] w fun e w' => e = .returned (.bool true) ∧ Below w.heap.size w w' := flows_any 2#64 0#64 3#64 0#64 w
theorem flows_ba (w : World) : Calls Tryz.prog 9 #[lit2 3 0, lit2 2 0] w fun e w' => e = .returned (.bool false) ∧ Below w.heap.size w w' := flows_any 3#64 0#64 2#64 0#64 w
theorem flows_04 (w : World) : Calls Tryz.prog 9 #[lit2 0 0, lit2 0 4] w fun e w' => e = .returned (.bool false) ∧ Below w.heap.size w w' := flows_any 0#64 0#64 0#64 4#64 w
theorem with_ba (w : World) : Calls Tryz.prog 11 #[lit2 3 0, lit2 2 0, .int .u64 1] w fun e w' => e = .returned (.bool true) ∧ Below w.heap.size w w' := with_any 3#64 0#64 2#64 0#64 1#64 w
theorem need_ba (w : World) : Calls Tryz.prog 12 #[lit2 3 0, lit2 2 0] w fun e w' => e = .returned (.int .u64 1) ∧ Below w.heap.size w w' := need_any 3#64 0#64 2#64 0#64 w
theorem join_ab (w : World) : Calls Tryz.prog 14 #[lit2 2 0, lit2 3 0] w fun e w' => e = .returned (lit2 3 0) ∧ Below w.heap.size w w' := join_any 2#64 0#64 3#64 0#64 w
theorem meet_ab (w : World) : Calls Tryz.prog 16 #[lit2 2 0, lit2 3 0] w fun e w' => e = .returned (lit2 2 0) ∧ Below w.heap.size w w' := meet_any 2#64 0#64 3#64 0#64 w
theorem raise_a1 (w : World) : Calls Tryz.prog 18 #[lit2 2 0, .int .u64 1, .int .u64 0] w fun e w' => e = .returned (lit2 3 0) ∧ Below w.heap.size w w' := raise_any 2#64 0#64 1#64 0#64 w

theorem lshow_at {w W : World} {P1 P2 P3 P4 P5 P6 P7 P8 : Prop} (hl : Laid w) (hg : gTop ≤ w.heap.size) (h : P1 ∧ P2 ∧ P3 ∧ P4 ∧ P5 ∧ P6 ∧ P7 ∧ P8 ∧ Hid (Below w.heap.size w W)) :
    Calls Tryz.prog 23 #[lit2 3 0] W fun e w' => e = .returned (.string ⟨#[115, 58, 48, 45, 49, 32, 116, 58, 110, 111, 110, 101]⟩) ∧ Below W.heap.size W w' :=
  lshow_lit W (Nat.le_trans hg h.2.2.2.2.2.2.2.2.out.size) (hl.below h.2.2.2.2.2.2.2.2.out)
theorem held_last {w W : World} {P1 P2 P3 P4 P5 P6 P7 P8 : Prop} (h : P1 ∧ P2 ∧ P3 ∧ P4 ∧ P5 ∧ P6 ∧ P7 ∧ P8 ∧ Hid (Below w.heap.size w W)) : Below w.heap.size w W := h.2.2.2.2.2.2.2.2.out
theorem cell_keep {W W' : World} {a : Addr} {v : Value} (h : W.cell? a = some v) (hb : Below W.heap.size W W') : W'.cell? a = some v := (hb.cell (World.block_lt_of_cell? W a h)).trans h
theorem held_keep {w W W' : World} {p q r s : Nat} (h : W.cell? ⟨p, 0, none⟩ = some (.int .u64 2) ∧ W.cell? ⟨p, 1, none⟩ = some (.int .u64 0) ∧ W.cell? ⟨q, 0, none⟩ = some (.int .u64 3) ∧ W.cell? ⟨q, 1, none⟩ = some (.int .u64 0) ∧ W.cell? ⟨r, 0, none⟩ = some (.int .u64 3) ∧ W.cell? ⟨r, 1, none⟩ = some (.int .u64 0) ∧ W.cell? ⟨s, 0, none⟩ = some (.int .u64 3) ∧ W.cell? ⟨s, 1, none⟩ = some (.int .u64 0) ∧ Hid (Below w.heap.size w W))
    (hb : Below W.heap.size W W') : W'.cell? ⟨p, 0, none⟩ = some (.int .u64 2) ∧ W'.cell? ⟨p, 1, none⟩ = some (.int .u64 0) ∧ W'.cell? ⟨q, 0, none⟩ = some (.int .u64 3) ∧ W'.cell? ⟨q, 1, none⟩ = some (.int .u64 0) ∧ W'.cell? ⟨r, 0, none⟩ = some (.int .u64 3) ∧ W'.cell? ⟨r, 1, none⟩ = some (.int .u64 0) ∧ W'.cell? ⟨s, 0, none⟩ = some (.int .u64 3) ∧ W'.cell? ⟨s, 1, none⟩ = some (.int .u64 0) ∧ Hid (Below w.heap.size w W') := by
  obtain ⟨h1, h2, h3, h4, h5, h6, h7, h8, h9⟩ := h
  exact ⟨cell_keep h1 hb, cell_keep h2 hb, cell_keep h3 hb, cell_keep h4 hb, cell_keep h5 hb, cell_keep h6 hb, cell_keep h7 hb, cell_keep h8 hb, Lib.hid (h9.out.trans (hb.mono h9.out.size))⟩

set_option maxRecDepth 100000 in
set_option maxHeartbeats 2000000 in
theorem lalive_any (w : World) (hg : gTop ≤ w.heap.size) (hl : Laid w) :
    Calls Tryz.prog 4 #[] w fun e w' => e = .returned (.bool true) ∧ Below w.heap.size w w' := by
  have HL := Lib.hid hl
  clear hl
  have hA0 : Box2 ((w.alloc (.cells #[.int .u64 2, .int .u64 0] 24)).alloc (.cells #[.int .u64 3, .int .u64 0] 24)) w.heap.size (.int .u64 2) (.int .u64 0) := (Box2.new w _ _).alloc _
  have hB0 : Box2 ((w.alloc (.cells #[.int .u64 2, .int .u64 0] 24)).alloc (.cells #[.int .u64 3, .int .u64 0] 24)) (w.heap.size + 1) (.int .u64 3) (.int .u64 0) := by
    have := Box2.new (w.alloc (.cells #[.int .u64 2, .int .u64 0] 24)) (.int .u64 3) (.int .u64 0)
    rwa [World.size_alloc] at this
  have hW0 := below2 w (.cells #[.int .u64 2, .int .u64 0] 24) (.cells #[.int .u64 3, .int .u64 0] 24)
  have HA0 := Lib.hid hA0
  have HB0 := Lib.hid hB0
  have HW0 := Lib.hid hW0
  clear hA0 hB0 hW0
  go_enter Tryz.func4, Tryz.ntmps4
  go_wp2_with fail
  refine (lread_lit _ (Nat.le_trans hg HW0.out.size) (HL.out.below HW0.out)).mono ?_
  rintro e w1 ⟨rfl, hb1⟩
  have HA1 := Lib.hid (HA0.out.below hb1)
  have HB1 := Lib.hid (HB0.out.below hb1)
  have HW1 := Lib.hid (HW0.out.trans (hb1.mono HW0.out.size))
  clear hb1 HA0 HB0 HW0
  have HA2 := Lib.hid (HA1.out.alloc (.cells #[.int .u64 3, .int .u64 0] 24))
  have HB2 := Lib.hid (HB1.out.alloc (.cells #[.int .u64 3, .int .u64 0] 24))
  have HX2 := Lib.hid (Box2.new w1 (.int .u64 3) (.int .u64 0))
  have HW2 := Lib.hid (HW1.out.alloc HW1.out.size (.cells #[.int .u64 3, .int .u64 0] 24))
  have b0 := HB2.out.c0
  have b1 := HB2.out.c1
  go_wp2_with fail
  clear b0 b1
  refine (lbytes_lit _).mono ?_
  rintro e w2 ⟨v, rfl, hr2, hb2⟩
  have HA3 := Lib.hid (HA2.out.below hb2)
  have HB3 := Lib.hid (HB2.out.below hb2)
  have HX3 := Lib.hid (HX2.out.below hb2)
  have HW3 := Lib.hid (HW2.out.trans (hb2.mono HW2.out.size))
  have HR := Lib.hid hr2
  clear hb2 HA2 HB2 HX2 HW2 hr2 HA1 HB1 HW1
  go_wp2_with fail
  refine (lfrom_lit v _ w2 HR.out).mono ?_
  rintro e w3 ⟨rfl, hb3⟩
  have HA4 := Lib.hid ((HA3.out.below hb3).alloc (.cells #[.int .u64 3, .int .u64 0] 24))
  have HB4 := Lib.hid ((HB3.out.below hb3).alloc (.cells #[.int .u64 3, .int .u64 0] 24))
  have HX4 := Lib.hid ((HX3.out.below hb3).alloc (.cells #[.int .u64 3, .int .u64 0] 24))
  have HY4 := Lib.hid (Box2.new w3 (.int .u64 3) (.int .u64 0))
  have HW4 := Lib.hid ((HW3.out.trans (hb3.mono HW3.out.size)).alloc (HW3.out.trans (hb3.mono HW3.out.size)).size (.cells #[.int .u64 3, .int .u64 0] 24))
  clear hb3 HA3 HB3 HX3 HW3 HR
  have h0 : (fun W : World => W.cell? ⟨w.heap.size, 0, none⟩ = some (.int .u64 2) ∧ W.cell? ⟨w.heap.size, 1, none⟩ = some (.int .u64 0) ∧ W.cell? ⟨w.heap.size + 1, 0, none⟩ = some (.int .u64 3) ∧ W.cell? ⟨w.heap.size + 1, 1, none⟩ = some (.int .u64 0) ∧ W.cell? ⟨w1.heap.size, 0, none⟩ = some (.int .u64 3) ∧ W.cell? ⟨w1.heap.size, 1, none⟩ = some (.int .u64 0) ∧ W.cell? ⟨w3.heap.size, 0, none⟩ = some (.int .u64 3) ∧ W.cell? ⟨w3.heap.size, 1, none⟩ = some (.int .u64 0) ∧ Hid (Below w.heap.size w W)) (w3.alloc (.cells #[.int .u64 3, .int .u64 0] 24)) :=
    ⟨HA4.out.c0, HA4.out.c1, HB4.out.c0, HB4.out.c1, HX4.out.c0, HX4.out.c1, HY4.out.c0, HY4.out.c1, HW4⟩
  have h1 := held_keep h0 ((Below.refl _ _).drew)
  have H1 := Lib.hid h1
  clear h0 h1 HA4 HB4 HX4 HY4 HW4
  go_wp2_with fail
  obtain ⟨w4, hw4⟩ : ∃ w4, w3.alloc (.cells #[.int .u64 3, .int .u64 0] 24) = w4 := ⟨_, rfl⟩
  rw [hw4] at H1 ⊢
  simp only [List.append_eq, List.cons_append, List.nil_append]
  go_region_held3 (fun W => W.cell? ⟨w.heap.size, 0, none⟩ = some (.int .u64 2) ∧ W.cell? ⟨w.heap.size, 1, none⟩ = some (.int .u64 0) ∧ W.cell? ⟨w.heap.size + 1, 0, none⟩ = some (.int .u64 3) ∧ W.cell? ⟨w.heap.size + 1, 1, none⟩ = some (.int .u64 0) ∧ W.cell? ⟨w1.heap.size, 0, none⟩ = some (.int .u64 3) ∧ W.cell? ⟨w1.heap.size, 1, none⟩ = some (.int .u64 0) ∧ W.cell? ⟨w3.heap.size, 0, none⟩ = some (.int .u64 3) ∧ W.cell? ⟨w3.heap.size, 1, none⟩ = some (.int .u64 0) ∧ Hid (Below w.heap.size w W)) (first | exact H1.out | exact held_keep (by assumption) (by assumption))
    (first
    | (go_at_call_of 9 (#[.agg #[.int .u64 2, .int .u64 0], .agg #[.int .u64 3, .int .u64 0]] : Array Value); refine (flows_ab _).mono ?_; rintro e w' ⟨rfl, hb⟩)
    | (go_at_call_of 9 (#[.agg #[.int .u64 3, .int .u64 0], .agg #[.int .u64 2, .int .u64 0]] : Array Value); refine (flows_ba _).mono ?_; rintro e w' ⟨rfl, hb⟩)
    | (go_at_call_of 9 (#[.agg #[.int .u64 0, .int .u64 0], .agg #[.int .u64 0, .int .u64 4]] : Array Value); refine (flows_04 _).mono ?_; rintro e w' ⟨rfl, hb⟩)
    | (go_at_call 11; refine (with_ba _).mono ?_; rintro e w' ⟨rfl, hb⟩)
    | (go_at_call 12; refine (need_ba _).mono ?_; rintro e w' ⟨rfl, hb⟩)
    | (go_at_call 14; refine (join_ab _).mono ?_; rintro e w' ⟨rfl, hb⟩)
    | (go_at_call 16; refine (meet_ab _).mono ?_; rintro e w' ⟨rfl, hb⟩)
    | (go_at_call 18; refine (raise_a1 _).mono ?_; rintro e w' ⟨rfl, hb⟩)
    | (go_at_call 23; refine (lshow_at HL.out hg (by assumption)).mono ?_; rintro e w' ⟨rfl, hb⟩))
  have HF := Lib.hid (held_last (w := w) (W := w') (by assumption))
  clear H1 hw4
  go_wp2
  go_ret
  exact ⟨rfl, HF.out⟩
end Go.Proofs.YtegjlgdbipfpaaaGreatDoor
