/-
  For every two labels: concordatlaw07.LabelBack returns true and leaves its arguments as they were, where the listed package-level variables hold what the program's text lays (the tied card).
-/
import Derived.Test.YtegjlgdbipfpaaaDoorLabL
import Derived.Test.YtegjlgdbipfpaaaDoorFrame
import Derived.Lib.SmallJoins
namespace Go.Proofs.YtegjlgdbipfpaaaDoor.labelBack
open Go Go.RowKit Go.ChangeShapes Go.WideShapes Go.ChangeAt
open Go.Joins

set_option maxRecDepth 100000 in
theorem contract (H : Type) (enc : TypeId × Value → H) (W : World) (base : Nat) (args : Array Value) (ds gs : List (DataW H)) (before : List MemPlace)
    (hval : ∀ (j : Nat) t v, Tryd.f13.params[j]? = some t → args[j]? = some v → Value.okWide Tryd.prog W .any base t v)
    (hW : DataW.Whole enc Tryd.prog Tryd.f13.params.toList Rows.labelBackSpec.vars false W args.toList ds gs before) (hL : laidMet Tryd.prog rowLaid W) (hS : W.ShapedOpen Tryd.prog) :
    Calls Tryd.prog 13 args W fun e W' => ∃ v, e = .returned v ∧ Rows.labelBackSpec.post enc Tryd.prog Tryd.f13 false true false false W args v W' := by
  have hW' := hW
  obtain ⟨p, q, hA0, hV, rfl, hfz, hnd⟩ := hW
  have hA : DataW.TrodAll enc Tryd.prog W 0 (fun _ => true) true Tryd.f13.params.toList args.toList ds p := hA0
  rw [Tryd.params13] at hA hval
  obtain ⟨v0, vs0, d0, ds0, p0, q0, hargs, rfl, rfl, h0, r0⟩ := trodAll_cons hA
  obtain ⟨v1, vs1, d1, ds1, p1, q1, rfl, rfl, rfl, h1, r1⟩ := trodAll_cons r0
  obtain ⟨rfl, rfl, rfl⟩ := trodAll_nil r1
  obtain rfl : args = #[v0, v1] := by cases args; simp_all
  obtain ⟨rfl, rfl⟩ := trodVars_none hV
  clear hA0
  have hl := laid_of hL hS
  have hg := laid_size hl
  obtain ⟨c0a, c0b, z0a, z0b, n0, rfl, rfl, rfl, k0a, k0b⟩ := open_agg2 Tryd.underlying53 (by kernel_rfl) cellsLabel (hval 0 53 v0 rfl rfl) h0
  obtain ⟨y0a, e0a, rfl, w0a⟩ := DataW.trod_int Tryd.underlying23 k0a
  obtain ⟨y0b, e0b, rfl, w0b⟩ := DataW.trod_int Tryd.underlying23 k0b
  simp at e0a e0b; subst e0a e0b
  obtain ⟨s0, rfl⟩ := set_of w0a
  obtain ⟨t0, rfl⟩ := set_of w0b
  obtain ⟨c1a, c1b, z1a, z1b, n1, rfl, rfl, rfl, k1a, k1b⟩ := open_agg2 Tryd.underlying53 (by kernel_rfl) cellsLabel (hval 1 53 v1 rfl rfl) h1
  obtain ⟨y1a, e1a, rfl, w1a⟩ := DataW.trod_int Tryd.underlying23 k1a
  obtain ⟨y1b, e1b, rfl, w1b⟩ := DataW.trod_int Tryd.underlying23 k1b
  simp at e1a e1b; subst e1a e1b
  obtain ⟨s1, rfl⟩ := set_of w1a
  obtain ⟨t1, rfl⟩ := set_of w1b
  refine (lback_any s0 t0 s1 t1 W hg hl).mono fun e W' ⟨he, hb⟩ => ?_
  subst he
  refine ⟨_, rfl, _, _, _, [], [], [], hW', ?_, ?_, ?_, hb.frame _, fun h => by cases h⟩
  · exact trodAll_cons_mk (shut_bool Tryd.underlying4 _) trodAll_mk0
  · exact trodAll_cons_mk (shut_agg2 (y0 := (.lit (.int .u64 (s0.toNat : Int)), [])) (y1 := (.lit (.int .u64 (t0.toNat : Int)), [])) Tryd.underlying53 (by kernel_rfl) cellsLabel ⟨1, by simp [DataW.trod, Tryd.underlying23, w0a]⟩ ⟨1, by simp [DataW.trod, Tryd.underlying23, w0b]⟩) (trodAll_cons_mk (shut_agg2 (y0 := (.lit (.int .u64 (s1.toNat : Int)), [])) (y1 := (.lit (.int .u64 (t1.toNat : Int)), [])) Tryd.underlying53 (by kernel_rfl) cellsLabel ⟨1, by simp [DataW.trod, Tryd.underlying23, w1a]⟩ ⟨1, by simp [DataW.trod, Tryd.underlying23, w1b]⟩) trodAll_mk0)
  · rfl

theorem reads (os : Os) {H : Type} (enc : TypeId × Value → H) : ∃ places, DataW.whole enc Tryd.prog ((laidWorld os #[]).forCall (fun _ _ => 0) ⟨#[], #[.agg #[.int .u64 0, .int .u64 0], .agg #[.int .u64 0, .int .u64 0]], []⟩).memory Tryd.f13.params.toList Rows.labelBackSpec.vars false #[Value.agg #[.int .u64 0, .int .u64 0], .agg #[.int .u64 0, .int .u64 0]].toList 8 = some ([.agg [.lit (.int .u64 0), .lit (.int .u64 0)], .agg [.lit (.int .u64 0), .lit (.int .u64 0)]], [], places) :=
  ⟨[], by kernel_rfl⟩

set_option maxRecDepth 100000 in
theorem lifted (os : Os) (started : os.Started) (H : Type) (enc : TypeId × Value → H) (F : Stop.Interp) :
    ReturnsInHanded {} Tryd.checked os 13 .any ((OpenSpec.ofChange Rows.labelBackSpec).preRow enc Tryd.prog Tryd.f13 Rows.labelBackRow.domain false Rows.labelBackRow.laid) (((OpenSpec.ofChange Rows.labelBackSpec).at F).post enc Tryd.prog Tryd.f13 false true false false) := by
  obtain ⟨places, hx⟩ := reads os enc
  refine returnsInHanded_of_row (C := Tryd.checked) (s := OpenSpec.ofChange Rows.labelBackSpec) own started (by kernel_rfl) Tryd.func13
    (witness_row_atRef (enc := enc) (C := Tryd.checked) false (laidWorld os #[]) #[.agg #[.int .u64 0, .int .u64 0], .agg #[.int .u64 0, .int .u64 0]] rfl (by kernel_rfl) (by kernel_rfl) (by kernel_rfl)
      (OpenSpec.preRow_of_cond 8 hx (by kernel_rfl) (fun k hk => by cases hk) (by kernel_rfl) (laid_met os _))) ?_
  intro W base args ds gs before hval hW _ _ _ hL hS _
  exact contract H enc W base args ds gs before hval hW hL hS

theorem said : Rows.LabelBackSaid :=
  OpenClaim.holds_of_cond 13 Tryd.f13 rfl rfl rfl rfl rfl rfl rfl ⟨rfl, rfl, rfl, rfl, rfl⟩ rfl rfl rfl rfl rfl (by kernel_rfl) Tryd.func13 (by kernel_rfl)
    (of_decide_eq_true (by kernel_rfl)) (by unfold Func.isWrapper; first | (rw [if_pos (by decide +kernel)]; kernel_rfl) | (rw [if_neg (by decide +kernel)]; exact ⟨rfl, rfl⟩))
    (fun os started H enc _ F => by rw [OpenClaim.pre_eq_preRow]; exact lifted os started H enc F)

theorem plain (f : FuncId) (fn : Func) (hf : Tryd.pinned.checked.prog.funcNamed Rows.labelBackRow.func = some f) (hfn : Tryd.pinned.checked.prog.funcs[f]? = some fn) :
    true = Tryd.pinned.checked.prog.looks [] ∧ ∀ (j : Nat) t, fn.params[j]? = some t → Tryd.pinned.checked.prog.wantsStandIn t = false := by
  obtain rfl : f = 13 := Option.some.inj ((show Tryd.prog.funcNamed Rows.labelBackRow.func = some 13 by kernel_rfl).symm.trans hf) |>.symm
  obtain rfl : fn = Tryd.f13 := (Option.some.inj (Tryd.func13.symm.trans hfn)).symm
  refine ⟨by kernel_rfl, fun j t ht => ?_⟩
  rw [Tryd.params13] at ht
  have hm := Array.mem_of_getElem? ht
  simp at hm
  subst hm
  exact (show Tryd.prog.wantsStandIn 53 = false by kernel_rfl)

/-- **THE CARD.** -/
theorem card : Rows.LabelBackCardSaid :=
  Claim7.holds_tied_plain_at .later [] _ _ _ _ said (fun _ h => by cases h) (by kernel_rfl) (fun _ h => by cases h) labelBack_row_tie rfl ⟨rfl, rfl⟩ (by kernel_rfl) rfl plain (by kernel_rfl)
end Go.Proofs.YtegjlgdbipfpaaaDoor.labelBack
