/-
  label.Read.
-/
import Derived.Test.YtegjlgdbipfpaaaGreatDoorLabE
import Derived.Test.YtegjlgdbipfpaaaGreatDoorRefJ
import Derived.Test.YtegjlgdbipfpaaaGreatDoorLabD
namespace Go.Proofs.YtegjlgdbipfpaaaGreatDoor
open Go Go.RowKit

theorem idx_sep (c : UInt8) (b : List UInt8) : ∀ (a : List UInt8), c ∉ a → Lib.indexByte (a ++ c :: b) c = a.length
  | [], _ => by simp [Lib.indexByte]
  | x :: a, h => by
    have hx : ¬ x = c := fun e => h (by simp [e])
    have ha : c ∉ a := fun e => h (by simp [e])
    simp only [List.cons_append, Lib.indexByte, beq_iff_eq, hx, if_false]
    rw [idx_sep c b a ha, if_neg (by omega)]
    simp
theorem cut_sep (c : UInt8) (a b : List UInt8) (h : c ∉ a) : Lib.cut (a ++ c :: b) [c] = (a, b, true) := by
  unfold Lib.cut
  rw [Lib.index_one, idx_sep c b a h, if_pos (by omega)]
  simp
theorem trim_has (p l : List UInt8) : Lib.trimPrefix (p ++ l) p = l := by
  unfold Lib.trimPrefix Lib.hasPrefix
  rw [if_pos (List.isPrefixOf_iff_prefix.2 ⟨l, rfl⟩)]
  simp
theorem text2_space : ∀ f, f < 64 → ∀ t, t < 64 → (32 : UInt8) ∉ text2 f t := by decide +kernel
theorem join_mem (x : UInt8) (hx : x ≠ 44) : ∀ (L : List (List UInt8)), (∀ l ∈ L, x ∉ l) → x ∉ Lib.join L [44]
  | [], _ => by simp [Lib.join_nil]
  | [y], h => by rw [Lib.join_one]; exact h y (by simp)
  | y :: z :: r, h => by
    rw [join_two]
    simp only [List.mem_append, List.mem_cons, not_or]
    exact ⟨h y (by simp), hx, join_mem x hx (z :: r) (fun l hl => h l (by simp only [List.mem_cons] at hl ⊢; exact .inr hl))⟩
theorem show_space (s : BitVec 64) : (32 : UInt8) ∉ showL s := by
  unfold showL
  split
  · decide
  · refine join_mem 32 (by decide) _ (fun l hl => ?_)
    obtain ⟨⟨f, t⟩, hp, rfl⟩ := List.mem_map.1 hl
    obtain ⟨h1, h2, _⟩ := spans_all hp
    simp only at h1 h2
    rw [spanText_eq f t (by omega) (by omega)]
    exact text2_space f h1 t h2
theorem cut_lab (a b : BitVec 64) : Lib.cut (labText (showL a) (showL b)) [32] = ([115, 58] ++ showL a, [116, 58] ++ showL b, true) := by
  have e : labText (showL a) (showL b) = ([115, 58] ++ showL a) ++ 32 :: ([116, 58] ++ showL b) := by simp [labText]
  rw [e]
  refine cut_sep 32 _ _ ?_
  simp only [List.mem_append, not_or]
  exact ⟨by decide, show_space a⟩

/-- What Read tells of a text. -/
theorem read_facts (p : List UInt8) : ∃ (s : BitVec 64) (f : Bool), (∀ e, readPost p e → e = .returned (.tuple #[U s, .bool f])) ∧ (∀ a, showL a = p → s = a ∧ f = true) ∧ (f = true → showL s = p) := by
  by_cases h : ∃ s, showL s = p
  · obtain ⟨s, hs⟩ := h
    refine ⟨s, true, fun e he => ?_, fun a ha => ⟨show_inj (hs.trans ha.symm), rfl⟩, fun _ => hs⟩
    rcases he with ⟨s', h1, h2⟩ | ⟨h1, _⟩
    · rw [h2, show_inj (h1.trans hs.symm)]
    · exact absurd hs (h1 s)
  · refine ⟨0#64, false, fun e he => ?_, fun a ha => absurd ⟨a, ha⟩ h, fun e => by cases e⟩
    rcases he with ⟨s', h1, h2⟩ | ⟨h1, h2⟩
    · exact absurd ⟨s', h1⟩ h
    · exact h2

def labPost (t : List UInt8) (e : Ending) : Prop :=
  (∃ a b, labText (showL a) (showL b) = t ∧ e = .returned (.tuple #[Lab a b, .bool true])) ∨ ((∀ a b, labText (showL a) (showL b) ≠ t) ∧ e = .returned (.tuple #[Lab 0#64 0#64, .bool false]))

theorem labPost_inj {a b c d : BitVec 64} (h : labText (showL a) (showL b) = labText (showL c) (showL d)) : a = c ∧ b = d := by
  have h1 := cut_lab a b
  rw [h, cut_lab c d] at h1
  simp only [Prod.mk.injEq, and_true] at h1
  exact ⟨(show_inj (List.append_cancel_left h1.1)).symm, (show_inj (List.append_cancel_left h1.2)).symm⟩

theorem two_store {W : World} {b : Nat} {x0 y0 : Value} {t : TypeId} (x y : Value) (h : W.heap[b]? = some (.cells #[x0, y0] t)) :
    W.cell? ⟨b, 0, none⟩ = some x0 ∧ W.frozen? ⟨b, 0, none⟩ = false ∧ W.frozen? ⟨b, 1, none⟩ = false ∧ (W.setCell ⟨b, 0, none⟩ x).cell? ⟨b, 1, none⟩ = some y0 ∧
      ((W.setCell ⟨b, 0, none⟩ x).setCell ⟨b, 1, none⟩ y).heap[b]? = some (.cells #[x, y] t) := by
  have h2 := heap_setCell_same W b 0 _ _ x h
  exact ⟨cell_of_row _ _ _ _ _ _ h, frozen_of_row _ _ _ _ _ h, frozen_of_row _ _ _ _ _ h, cell_of_row _ _ _ _ _ _ h2, heap_setCell_same _ b 1 _ _ y h2⟩
theorem res47 : Tryz.f7.results = #[.cell 2 24, .tmp 3] := by kernel_rfl

set_option maxRecDepth 100000 in
set_option maxHeartbeats 1000000 in
theorem lread_any (t : List UInt8) (ht : t.length ≤ 4294967280) (w : World) (hg : gTop ≤ w.heap.size) (hl : Laid w) :
    Calls Tryz.prog 7 #[Str t] w fun e w' => labPost t e ∧ Below w.heap.size w w' := by
  have HL := Lib.hid hl
  have hcut := fun W (h : Laid W) => cut_any ⟨t.toArray⟩ ⟨#[32]⟩ (by simp [ByteArray.size]; omega) W h
  have hcl := cut_len t [32]
  have hfacts : ∀ a b, labText (showL a) (showL b) = t → Lib.cut t [32] = ([115, 58] ++ showL a, [116, 58] ++ showL b, true) := fun a b h => by rw [← h]; exact cut_lab a b
  obtain ⟨c1, hc1⟩ : ∃ c, (Lib.cut t [32]).1 = c := ⟨_, rfl⟩
  obtain ⟨c2, hc2⟩ : ∃ c, (Lib.cut t [32]).2.1 = c := ⟨_, rfl⟩
  obtain ⟨two, htwo⟩ : ∃ c, (Lib.cut t [32]).2.2 = c := ⟨_, rfl⟩
  have hcut2 : ∀ W, Laid W → Calls Tryz.prog 27 #[Str t, .string ⟨#[32]⟩] W fun e w' => e = .returned (.tuple #[Str c1, Str c2, .bool two]) ∧ Below W.heap.size W w' := by
    intro W h
    have := hcut W h
    simp only at this
    rw [hc1, hc2, htwo] at this
    exact this
  rw [hc1, hc2] at hcl
  have hf : ∀ a b, labText (showL a) (showL b) = t → c1 = [115, 58] ++ showL a ∧ c2 = [116, 58] ++ showL b ∧ two = true := by
    intro a b h
    have := hfacts a b h
    exact ⟨by rw [← hc1, this], by rw [← hc2, this], by rw [← htwo, this]⟩
  have HCUT := Lib.hid hcut2
  have HF := Lib.hid hf
  clear hcut hcut2 hfacts hf hc1 hc2 htwo hl
  go_enter Tryz.func7, Tryz.ntmps7
  go_wp2_with fail
  refine (HCUT.out _ ?_).mono ?_
  · exact HL.out.below (by first | exact Below.refl _ _ | exact below1 w _ | exact below2 w _ _)
  rintro e w1 ⟨rfl, hB⟩
  have hBw : Below w.heap.size w w1 := (below1 w _).trans (hB.mono (below1 w _).size)
  have hx1 : w1.heap[w.heap.size]? = some (.cells #[.int .u64 0, .int .u64 0] 24) := (hB.block _ (by simp)).trans (World.alloc_heap_new w _)
  have HX1 := Lib.hid hx1
  clear hB hx1
  have htp1 := Tryz.strings_TrimPrefix ⟨c1.toArray⟩ ⟨#[115, 58]⟩ w1
  have htl1 : (Lib.trimPrefix c1 [115, 58]).length ≤ c1.length := by unfold Lib.trimPrefix; split <;> simp
  have hf1 : ∀ a b, labText (showL a) (showL b) = t → Lib.trimPrefix c1 [115, 58] = showL a ∧ two = true := fun a b h => by
    obtain ⟨h1, _, h3⟩ := HF.out a b h
    exact ⟨by rw [h1, trim_has], h3⟩
  simp only at htp1
  obtain ⟨p1, hp1⟩ : ∃ p, Lib.trimPrefix c1 [115, 58] = p := ⟨_, rfl⟩
  rw [hp1] at htp1 htl1
  simp only [hp1] at hf1
  have HT1 := Lib.hid htp1
  have HF1 := Lib.hid hf1
  clear htp1 hf1 hp1
  go_wp2_with fail
  refine HT1.out.mono ?_
  rintro e w' ⟨rfl, hww⟩
  subst hww
  obtain ⟨u, ok, hu1, hu2, hu3⟩ := read_facts p1
  have HU1 := Lib.hid hu1
  have HU2 := Lib.hid hu2
  have HU3 := Lib.hid hu3
  clear hu1 hu2 hu3 HT1
  go_wp2_with fail
  refine (read_any p1 (by omega) _ (Nat.le_trans hg hBw.size) (HL.out.below hBw)).mono ?_
  rintro e w2 ⟨hb2, hr2⟩
  obtain rfl := HU1.out e hr2
  have hBw2 := hBw.trans (hb2.mono hBw.size)
  have HX2 : Hid (w2.heap[w.heap.size]? = some (.cells #[.int .u64 0, .int .u64 0] 24)) := Lib.hid ((hb2.block _ (Array.getElem?_eq_some_iff.1 HX1.out).1).trans HX1.out)
  clear hb2 hr2 hBw
  have htp2 := Tryz.strings_TrimPrefix ⟨c2.toArray⟩ ⟨#[116, 58]⟩ w2
  have htl2 : (Lib.trimPrefix c2 [116, 58]).length ≤ c2.length := by unfold Lib.trimPrefix; split <;> simp
  have hf2 : ∀ a b, labText (showL a) (showL b) = t → Lib.trimPrefix c2 [116, 58] = showL b := fun a b h => by
    obtain ⟨_, h2, _⟩ := HF.out a b h
    rw [h2, trim_has]
  simp only at htp2
  obtain ⟨p2, hp2⟩ : ∃ p, Lib.trimPrefix c2 [116, 58] = p := ⟨_, rfl⟩
  rw [hp2] at htp2 htl2
  simp only [hp2] at hf2
  have HT2 := Lib.hid htp2
  have HF2 := Lib.hid hf2
  clear htp2 hf2 hp2
  go_wp2_with fail
  refine HT2.out.mono ?_
  rintro e w' ⟨rfl, hww⟩
  subst hww
  obtain ⟨v, is, hv1, hv2, hv3⟩ := read_facts p2
  have HV1 := Lib.hid hv1
  have HV2 := Lib.hid hv2
  have HV3 := Lib.hid hv3
  clear hv1 hv2 hv3 HT2
  go_wp2_with fail
  refine (read_any p2 (by omega) _ (Nat.le_trans hg hBw2.size) (HL.out.below hBw2)).mono ?_
  rintro e w3 ⟨hb3, hr3⟩
  obtain rfl := HV1.out e hr3
  have hBw3 := hBw2.trans (hb3.mono hBw2.size)
  have hx3 : w3.heap[w.heap.size]? = some (.cells #[.int .u64 0, .int .u64 0] 24) := (hb3.block _ (Array.getElem?_eq_some_iff.1 HX2.out).1).trans HX2.out
  have hbl3 : w.heap.size < w3.heap.size := (Array.getElem?_eq_some_iff.1 hx3).1
  clear hb3 hr3 hBw2
  have hsh := fun W (h : Below w.heap.size w W) => lshow_any u v W (Nat.le_trans hg h.size) (HL.out.below h)
  obtain ⟨T, hT⟩ : ∃ T, labText (showL u) (showL v) = T := ⟨_, rfl⟩
  simp only [hT] at hsh
  have HSH := Lib.hid hsh
  have HT := Lib.hid hT
  clear hsh hT
  have hx4 : (w3.alloc (.cells #[.int .u64 (u.toNat : Int), .int .u64 (v.toNat : Int)] 24)).heap[w.heap.size]? = some (.cells #[.int .u64 0, .int .u64 0] 24) := (Below.heap_alloc _ _ _ hbl3).trans hx3
  have hB4 : Below w.heap.size w (w3.alloc (.cells #[.int .u64 (u.toNat : Int), .int .u64 (v.toNat : Int)] 24)) := hBw3.alloc hBw3.size _
  have HX4 := Lib.hid hx4
  have HB4 := Lib.hid hB4
  by_cases hfl : two = true ∧ ok = true ∧ is = true
  · obtain ⟨rfl, rfl, rfl⟩ := hfl
    have hxx : (w3.alloc (.cells #[.int .u64 (u.toNat : Int), .int .u64 (v.toNat : Int)] 24)).heap[w3.heap.size]? = some (.cells #[.int .u64 (u.toNat : Int), .int .u64 (v.toNat : Int)] 24) := World.alloc_heap_new w3 _
    have HXX := Lib.hid hxx
    have hbne : w.heap.size ≠ w3.heap.size := by omega
    have HNE := Lib.hid hbne
    clear hx3 hx4 hB4 hBw3 hbl3 hxx hbne
    go_wp2_with fail
    refine (HSH.out _ HB4.out).mono ?_
    rintro e w5 ⟨rfl, hb5⟩
    have hBw5 := HB4.out.trans (hb5.mono HB4.out.size)
    have hx5 := (hb5.block _ (Array.getElem?_eq_some_iff.1 HX4.out).1).trans HX4.out
    have hy5 := (hb5.block _ (Array.getElem?_eq_some_iff.1 HXX.out).1).trans HXX.out
    have HX5 := Lib.hid hx5
    have HY5 := Lib.hid hy5
    have HB5 := Lib.hid hBw5
    clear hb5 hx5 hy5 hBw5 HSH HX4 HXX HB4
    by_cases he : T = t
    · have hb : (T == t) = true := by rw [beq_iff_eq]; exact he
      have hb2 : (T != t) = false := by rw [bne_eq_false_iff_eq]; exact he
      have hy0 : w5.cell? ⟨w3.heap.size, 0, none⟩ = some (U u) := cell_of_row _ _ _ _ _ _ HY5.out
      have hy1 : w5.cell? ⟨w3.heap.size, 1, none⟩ = some (U v) := cell_of_row _ _ _ _ _ _ HY5.out
      obtain ⟨c0, f0, f1, k1, hx6⟩ := two_store (U u) (U v) HX5.out
      have HX6 := Lib.hid hx6
      have HB6 := Lib.hid ((HB5.out.setCell (p := ⟨w.heap.size, 0, none⟩) (Nat.le_refl _) (U u)).setCell (p := ⟨w.heap.size, 1, none⟩) (Nat.le_refl _) (U v))
      have HE := Lib.hid he
      clear hx6 he
      go_wp2
      exact bodyPost_ret (lab_results2 res47 _ _ _ _ _ _ _ rfl HX6.out) rfl ⟨.inl ⟨u, v, HT.out.trans HE.out, rfl⟩, HB6.out⟩
    · have hb : (T == t) = false := by rw [beq_eq_false_iff_ne]; exact he
      have hb2 : (T != t) = true := by rw [bne_iff_ne]; exact he
      have hno : Hid (∀ a b, labText (showL a) (showL b) ≠ t) := Lib.hid (fun a b h => by
        obtain ⟨h1, h2⟩ := HF1.out a b h
        have h3 := HF2.out a b h
        have e1 := (HU2.out a h1.symm).1
        have e2 := (HV2.out b h3.symm).1
        subst e1 e2
        exact he (HT.out.symm.trans h))
      obtain ⟨c0, f0, f1, k1, hx6⟩ := two_store (.int .u64 0) (.int .u64 0) HX5.out
      have HX6 := Lib.hid hx6
      have HB6 := Lib.hid ((HB5.out.setCell (p := ⟨w.heap.size, 0, none⟩) (Nat.le_refl _) (.int .u64 0)).setCell (p := ⟨w.heap.size, 1, none⟩) (Nat.le_refl _) (.int .u64 0))
      clear hx6 he
      go_wp2
      exact bodyPost_ret (lab_results2 res47 _ _ _ _ _ _ _ rfl HX6.out) rfl ⟨.inr ⟨hno.out, rfl⟩, HB6.out⟩
  · have hno : Hid (∀ a b, labText (showL a) (showL b) ≠ t) := Lib.hid (fun a b h => by
      obtain ⟨h1, h2⟩ := HF1.out a b h
      have h3 := HF2.out a b h
      exact hfl ⟨h2, (HU2.out a h1.symm).2, (HV2.out b h3.symm).2⟩)
    obtain ⟨c0, f0, f1, k1, hx5⟩ := two_store (.int .u64 0) (.int .u64 0) hx4
    have HX5 := Lib.hid hx5
    have HB5 := Lib.hid ((hB4.setCell (p := ⟨w.heap.size, 0, none⟩) (Nat.le_refl _) (.int .u64 0)).setCell (p := ⟨w.heap.size, 1, none⟩) (Nat.le_refl _) (.int .u64 0))
    clear hx3 hx4 hx5 hB4 hBw3 hbl3
    have hcase : two = false ∨ two = true ∧ ok = false ∨ two = true ∧ ok = true ∧ is = false := by
      cases two <;> cases ok <;> cases is <;> simp_all
    clear hfl
    rcases hcase with rfl | ⟨rfl, rfl⟩ | ⟨rfl, rfl, rfl⟩
    all_goals
      go_wp2
      exact bodyPost_ret (lab_results2 res47 _ _ _ _ _ _ _ rfl HX5.out) rfl ⟨.inr ⟨hno.out, rfl⟩, HB5.out⟩
end Go.Proofs.YtegjlgdbipfpaaaGreatDoor
