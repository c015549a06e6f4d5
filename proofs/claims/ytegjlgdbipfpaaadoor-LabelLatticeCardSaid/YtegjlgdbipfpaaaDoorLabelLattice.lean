/-
  For every three labels: concordatlaw07.LabelLattice returns true and leaves its arguments as they were, where the listed package-level variables hold what the program's text lays (the tied card).
-/
import Derived.Test.YtegjlgdbipfpaaaDoorLabM
import Derived.Test.YtegjlgdbipfpaaaDoorFrame
import Derived.Lib.SmallJoins
namespace Go.Proofs.YtegjlgdbipfpaaaDoor.labelLattice
open Go Go.RowKit Go.ChangeShapes Go.WideShapes Go.ChangeAt
open Go.Joins

set_option maxRecDepth 100000 in
theorem contract (H : Type) (enc : TypeId × Value → H) (W : World) (base : Nat) (args : Array Value) (ds gs : List (DataW H)) (before : List MemPlace)
    (hval : ∀ (j : Nat) t v, Tryd.f10.params[j]? = some t → args[j]? = some v → Value.okWide Tryd.prog W .any base t v)
    (hW : DataW.Whole enc Tryd.prog Tryd.f10.params.toList Rows.labelLatticeSpec.vars false W args.toList ds gs before) (hL : laidMet Tryd.prog rowLaid W) (hS : W.ShapedOpen Tryd.prog) :
    Calls Tryd.prog 10 args W fun e W' => ∃ v, e = .returned v ∧ Rows.labelLatticeSpec.post enc Tryd.prog Tryd.f10 false true false false W args v W' := by
  have hW' := hW
  obtain ⟨p, q, hA0, hV, rfl, hfz, hnd⟩ := hW
  have hA : DataW.TrodAll enc Tryd.prog W 0 (fun _ => true) true Tryd.f10.params.toList args.toList ds p := hA0
  rw [Tryd.params10] at hA hval
  obtain ⟨v0, vs0, d0, ds0, p0, q0, hargs, rfl, rfl, h0, r0⟩ := trodAll_cons hA
  obtain ⟨v1, vs1, d1, ds1, p1, q1, rfl, rfl, rfl, h1, r1⟩ := trodAll_cons r0
  obtain ⟨v2, vs2, d2, ds2, p2, q2, rfl, rfl, rfl, h2, r2⟩ := trodAll_cons r1
  obtain ⟨rfl, rfl, rfl⟩ := trodAll_nil r2
  obtain rfl : args = #[v0, v1, v2] := by cases args; simp_all
  obtain ⟨rfl, rfl⟩ := trodVars_none hV
  clear hA0
  have hl := laid_of hL hS
  have hg := laid_size hl
  obtain ⟨c0a, c0b, z0a, z0b, n0, rfl, rfl, rfl, k0a, k0b⟩ := open_agg2 Tryd.underlying53 (by kernel_rfl) cellsLabel (hval 0 53 v0 rfl rfl) h0
  obtain ⟨y0a, e0a, rfl, w0a⟩ := DataW.trod_int Tryd.underlying23 k0a
  obtain ⟨y0b, e0b, rfl, w0b⟩ := DataW.trod_int Tryd.underlying23 k0b
  simp at e0a e0b; subst e0a e0b
  obtain ⟨s0, rfl⟩ := set_of w0a
  obtain ⟨t0, rfl⟩ := set_of w0b
  obtain ⟨c1a, c1b, z1a, z1b, n1, rfl, rfl, rfl, k1a, k1b⟩ := open_agg2 Tryd.underlying53 (by kernel_rfl) cellsLabel (hval 1 53 v1 rfl rfl) h1
  obtain ⟨y1a, e1a, rfl, w1a⟩ := DataW.trod_int Tryd.underlying23 k1a
  obtain ⟨y1b, e1b, rfl, w1b⟩ := DataW.trod_int Tryd.underlying23 k1b
  simp at e1a e1b; subst e1a e1b
  obtain ⟨s1, rfl⟩ := set_of w1a
  obtain ⟨t1, rfl⟩ := set_of w1b
  obtain ⟨c2a, c2b, z2a, z2b, n2, rfl, rfl, rfl, k2a, k2b⟩ := open_agg2 Tryd.underlying53 (by kernel_rfl) cellsLabel (hval 2 53 v2 rfl rfl) h2
  obtain ⟨y2a, e2a, rfl, w2a⟩ := DataW.trod_int Tryd.underlying23 k2a
  obtain ⟨y2b, e2b, rfl, w2b⟩ := DataW.trod_int Tryd.underlying23 k2b
  simp at e2a e2b; subst e2a e2b
  obtain ⟨s2, rfl⟩ := set_of w2a
  obtain ⟨t2, rfl⟩ := set_of w2b
  refine (llattice_any s0 t0 s1 t1 s2 t2 W hg hl).mono fun e W' ⟨he, hb⟩ => ?_
  subst he
  refine ⟨_, rfl, _, _, _, [], [], [], hW', ?_, ?_, ?_, hb.frame _, fun h => by cases h⟩
  · exact trodAll_cons_mk (shut_bool Tryd.underlying4 _) trodAll_mk0
  · exact trodAll_cons_mk (shut_agg2 (y0 := (.lit (.int .u64 (s0.toNat : Int)), [])) (y1 := (.lit (.int .u64 (t0.toNat : Int)), [])) Tryd.underlying53 (by kernel_rfl) cellsLabel ⟨1, by simp [DataW.trod, Tryd.underlying23, w0a]⟩ ⟨1, by simp [DataW.trod, Tryd.underlying23, w0b]⟩) (trodAll_cons_mk (shut_agg2 (y0 := (.lit (.int .u64 (s1.toNat : Int)), [])) (y1 := (.lit (.int .u64 (t1.toNat : Int)), [])) Tryd.underlying53 (by kernel_rfl) cellsLabel ⟨1, by simp [DataW.trod, Tryd.underlying23, w1a]⟩ ⟨1, by simp [DataW.trod, Tryd.underlying23, w1b]⟩) (trodAll_cons_mk (shut_agg2 (y0 := (.lit (.int .u64 (s2.toNat : Int)), [])) (y1 := (.lit (.int .u64 (t2.toNat : Int)), [])) Tryd.underlying53 (by kernel_rfl) cellsLabel ⟨1, by simp [DataW.trod, Tryd.underlying23, w2a]⟩ ⟨1, by simp [DataW.trod, Tryd.underlying23, w2b]⟩) trodAll_mk0))
  · rfl

theorem reads (os : Os) {H : Type} (enc : TypeId × Value → H) : ∃ places, DataW.whole enc Tryd.prog ((laidWorld os #[]).forCall (fun _ _ => 0) ⟨#[], #[.agg #[.int .u64 0, .int .u64 0], .agg #[.int .u64 0, .int .u64 0], .agg #[.int .u64 0, .int .u64 0]], []⟩).memory Tryd.f10.params.toList Rows.labelLatticeSpec.vars false #[Value.agg #[.int .u64 0, .int .u64 0], .agg #[.int .u64 0, .int .u64 0], .agg #[.int .u64 0, .int .u64 0]].toList 8 = some ([.agg [.lit (.int .u64 0), .lit (.int .u64 0)], .agg [.lit (.int .u64 0), .lit (.int .u64 0)], .agg [.lit (.int .u64 0), .lit (.int .u64 0)]], [], places) :=
  ⟨[], by kernel_rfl⟩

set_option maxRecDepth 100000 in
theorem lifted (os : Os) (started : os.Started) (H : Type) (enc : TypeId × Value → H) (F : Stop.Interp) :
    ReturnsInHanded {} Tryd.checked os 10 .any ((OpenSpec.ofChange Rows.labelLatticeSpec).preRow enc Tryd.prog Tryd.f10 Rows.labelLatticeRow.domain false Rows.labelLatticeRow.laid) (((OpenSpec.ofChange Rows.labelLatticeSpec).at F).post enc Tryd.prog Tryd.f10 false true false false) := by
  obtain ⟨places, hx⟩ := reads os enc
  refine returnsInHanded_of_row (C := Tryd.checked) (s := OpenSpec.ofChange Rows.labelLatticeSpec) own started (by kernel_rfl) Tryd.func10
    (witness_row_atRef (enc := enc) (C := Tryd.checked) false (laidWorld os #[]) #[.agg #[.int .u64 0, .int .u64 0], .agg #[.int .u64 0, .int .u64 0], .agg #[.int .u64 0, .int .u64 0]] rfl (by kernel_rfl) (by kernel_rfl) (by kernel_rfl)
      (OpenSpec.preRow_of_cond 8 hx (by kernel_rfl) (fun k hk => by cases hk) (by kernel_rfl) (laid_met os _))) ?_
  intro W base args ds gs before hval hW _ _ _ hL hS _
  exact contract H enc W base args ds gs before hval hW hL hS

theorem said : Rows.LabelLatticeSaid :=
  OpenClaim.holds_of_cond 10 Tryd.f10 rfl rfl rfl rfl rfl rfl rfl ⟨rfl, rfl, rfl, rfl, rfl⟩ rfl rfl rfl rfl rfl (by kernel_rfl) Tryd.func10 (by kernel_rfl)
    (of_decide_eq_true (by kernel_rfl)) (by unfold Func.isWrapper; first | (rw [if_pos (by decide +kernel)]; kernel_rfl) | (rw [if_neg (by decide +kernel)]; exact ⟨rfl, rfl⟩))
    (fun os started H enc _ F => by rw [OpenClaim.pre_eq_preRow]; exact lifted os started H enc F)

theorem plain (f : FuncId) (fn : Func) (hf : Tryd.pinned.checked.prog.funcNamed Rows.labelLatticeRow.func = some f) (hfn : Tryd.pinned.checked.prog.funcs[f]? = some fn) :
    true = Tryd.pinned.checked.prog.looks [] ∧ ∀ (j : Nat) t, fn.params[j]? = some t → Tryd.pinned.checked.prog.wantsStandIn t = false := by
  obtain rfl : f = 10 := Option.some.inj ((show Tryd.prog.funcNamed Rows.labelLatticeRow.func = some 10 by kernel_rfl).symm.trans hf) |>.symm
  obtain rfl : fn = Tryd.f10 := (Option.some.inj (Tryd.func10.symm.trans hfn)).symm
  refine ⟨by kernel_rfl, fun j t ht => ?_⟩
  rw [Tryd.params10] at ht
  have hm := Array.mem_of_getElem? ht
  simp at hm
  subst hm
  exact (show Tryd.prog.wantsStandIn 53 = false by kernel_rfl)

/-- **THE CARD.** -/
theorem card : Rows.LabelLatticeCardSaid :=
  Claim7.holds_tied_plain_at .later [] _ _ _ _ said (fun _ h => by cases h) (by kernel_rfl) (fun _ h => by cases h) labelLattice_row_tie rfl ⟨rfl, rfl⟩ (by kernel_rfl) rfl plain (by kernel_rfl)
end Go.Proofs.YtegjlgdbipfpaaaDoor.labelLattice
