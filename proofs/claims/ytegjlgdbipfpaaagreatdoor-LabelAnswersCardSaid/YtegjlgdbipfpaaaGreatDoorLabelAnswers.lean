/-
  For every two labels, every set, every row of bytes and every text: concordatlaw07.LabelAnswers returns true and leaves its arguments as they were, where the listed package-level variables hold what the program's text lays (the tied card).
-/
import Derived.Test.YtegjlgdbipfpaaaGreatDoorRfI
import Derived.Test.YtegjlgdbipfpaaaGreatDoorFrame
import Derived.Lib.SmallJoins
namespace Go.Proofs.YtegjlgdbipfpaaaGreatDoor.labelAnswers
open Go Go.RowKit Go.ChangeShapes Go.WideShapes Go.ChangeAt
open Go.ChangeMaps (open_string shut_string)
open Go.Joins

set_option maxRecDepth 100000 in
theorem contract (H : Type) (enc : TypeId × Value → H) (W : World) (base : Nat) (args : Array Value) (ds gs : List (DataW H)) (before : List MemPlace)
    (hval : ∀ (j : Nat) t v, Tryz.f3.params[j]? = some t → args[j]? = some v → Value.okWide Tryz.prog W .any base t v)
    (hW : DataW.Whole enc Tryz.prog Tryz.f3.params.toList Rows.labelAnswersSpec.vars false W args.toList ds gs before) (hL : laidMet Tryz.prog rowLaid W) (hS : W.ShapedOpen Tryz.prog) :
    Calls Tryz.prog 3 args W fun e W' => ∃ v, e = .returned v ∧ Rows.labelAnswersSpec.post enc Tryz.prog Tryz.f3 false true false false W args v W' := by
  have hW' := hW
  obtain ⟨p, q, hA0, hV, rfl, hfz, hnd⟩ := hW
  have hA : DataW.TrodAll enc Tryz.prog W 0 (fun _ => true) true Tryz.f3.params.toList args.toList ds p := hA0
  rw [Tryz.params3] at hA hval
  obtain ⟨v0, vs0, d0, ds0, p0, q0, hargs, rfl, rfl, h0, r0⟩ := trodAll_cons hA
  obtain ⟨v1, vs1, d1, ds1, p1, q1, rfl, rfl, rfl, h1, r1⟩ := trodAll_cons r0
  obtain ⟨v2, vs2, d2, ds2, p2, q2, rfl, rfl, rfl, h2, r2⟩ := trodAll_cons r1
  obtain ⟨v3, vs3, d3, ds3, p3, q3, rfl, rfl, rfl, h3, r3⟩ := trodAll_cons r2
  obtain ⟨v4, vs4, d4, ds4, p4, q4, rfl, rfl, rfl, h4, r4⟩ := trodAll_cons r3
  obtain ⟨rfl, rfl, rfl⟩ := trodAll_nil r4
  obtain rfl : args = #[v0, v1, v2, v3, v4] := by cases args; simp_all
  obtain ⟨rfl, rfl⟩ := trodVars_none hV
  clear hA0
  have hl := laid_of hL hS
  have hg := laid_size hl
  obtain ⟨c0a, c0b, z0a, z0b, n0, rfl, rfl, rfl, k0a, k0b⟩ := open_agg2 Tryz.underlying24 (by kernel_rfl) cellsLabel (hval 0 24 v0 rfl rfl) h0
  obtain ⟨y0a, e0a, rfl, w0a⟩ := DataW.trod_int Tryz.underlying22 k0a
  obtain ⟨y0b, e0b, rfl, w0b⟩ := DataW.trod_int Tryz.underlying22 k0b
  simp at e0a e0b; subst e0a e0b
  obtain ⟨s0, rfl⟩ := set_of w0a
  obtain ⟨t0, rfl⟩ := set_of w0b
  obtain ⟨c1a, c1b, z1a, z1b, n1, rfl, rfl, rfl, k1a, k1b⟩ := open_agg2 Tryz.underlying24 (by kernel_rfl) cellsLabel (hval 1 24 v1 rfl rfl) h1
  obtain ⟨y1a, e1a, rfl, w1a⟩ := DataW.trod_int Tryz.underlying22 k1a
  obtain ⟨y1b, e1b, rfl, w1b⟩ := DataW.trod_int Tryz.underlying22 k1b
  simp at e1a e1b; subst e1a e1b
  obtain ⟨s1, rfl⟩ := set_of w1a
  obtain ⟨t1, rfl⟩ := set_of w1b
  obtain ⟨y2, rfl, rfl, rfl, w2⟩ := open_int Tryz.underlying22 (hval 2 22 v2 rfl rfl) h2
  obtain ⟨s2, rfl⟩ := set_of w2
  have htr3 := h3
  obtain ⟨a3, len3, cap3, rfl⟩ := okWide_slice Tryz.underlying25 (hval 3 25 v3 rfl rfl)
  obtain ⟨fuel3, hf3⟩ := h3
  have hB3 := bytes_of hf3
  have hlt3 : ∀ x ∈ p3, x.block < W.heap.size := fun x hx => by simpa using hW'.lt x (by simp [hx])
  obtain ⟨b4, rfl, rfl, rfl, w4⟩ := open_string Tryz.underlying9 (hval 4 9 v4 rfl rfl) h4
  obtain ⟨l4, rfl⟩ : ∃ l : List UInt8, b4 = ⟨l.toArray⟩ := ⟨b4.data.toList, by cases b4; simp⟩
  have m4 : l4.length ≤ 9223372036854775807 := by unfold maxLen at w4; simpa [ByteArray.size] using w4
  refine (lanswers_any s0 t0 s1 t1 s2 a3 len3 cap3 l4 W hB3 hg hl).mono fun e W' ⟨he, hb⟩ => ?_
  subst he
  refine ⟨_, rfl, _, _, _, [], [] ++ ([] ++ ([] ++ (p3 ++ ([] ++ [])))), [], hW', ?_, ?_, ?_, hb.frame _, fun h => by cases h⟩
  · exact trodAll_cons_mk (shut_bool Tryz.underlying4 _) trodAll_mk0
  · exact trodAll_cons_mk (shut_agg2 (y0 := (.lit (.int .u64 (s0.toNat : Int)), [])) (y1 := (.lit (.int .u64 (t0.toNat : Int)), [])) Tryz.underlying24 (by kernel_rfl) cellsLabel ⟨1, by simp [DataW.trod, Tryz.underlying22, w0a]⟩ ⟨1, by simp [DataW.trod, Tryz.underlying22, w0b]⟩) (trodAll_cons_mk (shut_agg2 (y0 := (.lit (.int .u64 (s1.toNat : Int)), [])) (y1 := (.lit (.int .u64 (t1.toNat : Int)), [])) Tryz.underlying24 (by kernel_rfl) cellsLabel ⟨1, by simp [DataW.trod, Tryz.underlying22, w1a]⟩ ⟨1, by simp [DataW.trod, Tryz.underlying22, w1b]⟩) (trodAll_cons_mk (shut_int Tryz.underlying22 w2) (trodAll_cons_mk (Below.trod laidOut (by kernel_rfl) (of_decide_eq_true (by kernel_rfl)) htr3 hb hlt3) (trodAll_cons_mk (shut_string Tryz.underlying9 w4) trodAll_mk0))))
  · rfl

theorem reads (os : Os) {H : Type} (enc : TypeId × Value → H) : ∃ places, DataW.whole enc Tryz.prog ((laidWorld os #[]).forCall (fun _ _ => 0) ⟨#[], #[.agg #[.int .u64 0, .int .u64 0], .agg #[.int .u64 0, .int .u64 0], .int .u64 0, .slice none 0 0, .string ⟨#[]⟩], []⟩).memory Tryz.f3.params.toList Rows.labelAnswersSpec.vars false #[Value.agg #[.int .u64 0, .int .u64 0], .agg #[.int .u64 0, .int .u64 0], .int .u64 0, .slice none 0 0, .string ⟨#[]⟩].toList 8 = some ([.agg [.lit (.int .u64 0), .lit (.int .u64 0)], .agg [.lit (.int .u64 0), .lit (.int .u64 0)], .lit (.int .u64 0), .nil, .lit (.string [])], [], places) :=
  ⟨[], by kernel_rfl⟩

set_option maxRecDepth 100000 in
theorem lifted (os : Os) (started : os.Started) (H : Type) (enc : TypeId × Value → H) (F : Stop.Interp) :
    ReturnsInHanded {} Tryz.checked os 3 .any ((OpenSpec.ofChange Rows.labelAnswersSpec).preRow enc Tryz.prog Tryz.f3 Rows.labelAnswersRow.domain false Rows.labelAnswersRow.laid) (((OpenSpec.ofChange Rows.labelAnswersSpec).at F).post enc Tryz.prog Tryz.f3 false true false false) := by
  obtain ⟨places, hx⟩ := reads os enc
  refine returnsInHanded_of_row (C := Tryz.checked) (s := OpenSpec.ofChange Rows.labelAnswersSpec) own started (by kernel_rfl) Tryz.func3
    (witness_row_atRef (enc := enc) (C := Tryz.checked) false (laidWorld os #[]) #[.agg #[.int .u64 0, .int .u64 0], .agg #[.int .u64 0, .int .u64 0], .int .u64 0, .slice none 0 0, .string ⟨#[]⟩] rfl (by kernel_rfl) (by kernel_rfl) (by kernel_rfl)
      (OpenSpec.preRow_of_cond 8 hx (by kernel_rfl) (fun k hk => by cases hk) (by kernel_rfl) (laid_met os _))) ?_
  intro W base args ds gs before hval hW _ _ _ hL hS _
  exact contract H enc W base args ds gs before hval hW hL hS

theorem said : Rows.LabelAnswersSaid :=
  OpenClaim.holds_of_cond 3 Tryz.f3 rfl rfl rfl rfl rfl rfl rfl ⟨rfl, rfl, rfl, rfl, rfl⟩ rfl rfl rfl rfl rfl (by kernel_rfl) Tryz.func3 (by kernel_rfl)
    (of_decide_eq_true (by kernel_rfl)) (by unfold Func.isWrapper; first | (rw [if_pos (by decide +kernel)]; kernel_rfl) | (rw [if_neg (by decide +kernel)]; exact ⟨rfl, rfl⟩))
    (fun os started H enc _ F => by rw [OpenClaim.pre_eq_preRow]; exact lifted os started H enc F)

theorem plain (f : FuncId) (fn : Func) (hf : Tryz.pinned.checked.prog.funcNamed Rows.labelAnswersRow.func = some f) (hfn : Tryz.pinned.checked.prog.funcs[f]? = some fn) :
    true = Tryz.pinned.checked.prog.looks [] ∧ ∀ (j : Nat) t, fn.params[j]? = some t → Tryz.pinned.checked.prog.wantsStandIn t = false := by
  obtain rfl : f = 3 := Option.some.inj ((show Tryz.prog.funcNamed Rows.labelAnswersRow.func = some 3 by kernel_rfl).symm.trans hf) |>.symm
  obtain rfl : fn = Tryz.f3 := (Option.some.inj (Tryz.func3.symm.trans hfn)).symm
  refine ⟨by kernel_rfl, fun j t ht => ?_⟩
  rw [Tryz.params3] at ht
  have hm := Array.mem_of_getElem? ht
  simp at hm
  rcases hm with rfl | rfl | rfl | rfl
  · exact (show Tryz.prog.wantsStandIn 24 = false by kernel_rfl)
  · exact (show Tryz.prog.wantsStandIn 22 = false by kernel_rfl)
  · exact (show Tryz.prog.wantsStandIn 25 = false by kernel_rfl)
  · exact (show Tryz.prog.wantsStandIn 9 = false by kernel_rfl)

/-- **THE CARD.** -/
theorem card : Rows.LabelAnswersCardSaid :=
  Claim7.holds_tied_plain_at .later [] _ _ _ _ said (fun _ h => by cases h) (by kernel_rfl) (fun _ h => by cases h) labelAnswers_row_tie rfl ⟨rfl, rfl⟩ (by kernel_rfl) rfl plain (by kernel_rfl)
end Go.Proofs.YtegjlgdbipfpaaaGreatDoor.labelAnswers
