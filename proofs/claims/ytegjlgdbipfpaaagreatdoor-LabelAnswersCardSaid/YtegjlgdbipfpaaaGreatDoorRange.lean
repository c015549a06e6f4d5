/-
  A range over a function whose iterator keeps its state in a captured variable (one block b of its own): a law over any program. The library's laws of this kind ask that the iterator writes no cells; this one lets it write block b.
-/
import Derived.RangeFuncWrites
import Derived.RangeFuncBound
import Derived.RangeFuncCalls
import Derived.RangeFuncLeaves
import Derived.RangeFuncBox
import Derived.Below
namespace Go.Proofs.YtegjlgdbipfpaaaGreatDoor
open Go Go.RowKit

/-- What a round keeps: all that lay below n0, and the iterator's own block. -/
structure Keep (n0 b : Nat) (A B : World) : Prop where
  below : Below n0 A B
  at_ : B.heap[b]? = A.heap[b]?

theorem Keep.refl (n0 b : Nat) (A : World) : Keep n0 b A A := ⟨Below.refl _ _, rfl⟩
theorem Keep.trans {n0 b : Nat} {A B C : World} (h : Keep n0 b A B) (k : Keep n0 b B C) : Keep n0 b A C := ⟨h.below.trans k.below, k.at_.trans h.at_⟩
theorem Keep.alloc {n0 b : Nat} {A W : World} (h : Keep n0 b A W) (hn : n0 ≤ W.heap.size) (hb : b < W.heap.size) (o : Obj) : Keep n0 b A (W.alloc o) :=
  h.trans ⟨(Below.refl _ _).alloc hn _, Below.heap_alloc _ _ _ hb⟩
theorem Keep.putObj {n0 b : Nat} {A W : World} (h : Keep n0 b A W) {l : Nat} (o : Obj) (hn : n0 ≤ l) (hl : l < W.heap.size) (hb : b ≠ l) : Keep n0 b A (W.putObj l o) :=
  h.trans ⟨(Below.refl n0 W).grown (grownBy_putObj' W l o) (by omega) (fun k e => by cases e; omega), World.putObj_heap_other hb⟩
theorem Keep.setCell {n0 b : Nat} {A W : World} (h : Keep n0 b A W) {p : Addr} (hp : n0 ≤ p.block) (hb : b ≠ p.block) (v : Value) : Keep n0 b A (W.setCell p v) :=
  h.trans ⟨(Below.refl n0 W).setCell hp v, Below.heap_setCell _ _ _ _ hb⟩
theorem Keep.drew {n0 b : Nat} {A W : World} (h : Keep n0 b A W) : Keep n0 b A W.drew := h.trans ⟨(Below.refl n0 W).drew, rfl⟩
theorem Keep.grown {n0 b : Nat} {A W W' : World} {row : Option Nat} (h : Keep n0 b A W) (hg : W.grownBy W' row) (hn : n0 ≤ W.heap.size) (hb : b < W.heap.size) (hr : ∀ k, row = some k → n0 ≤ k ∧ b ≠ k) : Keep n0 b A W' :=
  h.trans ⟨(Below.refl n0 W).grown hg hn (fun k e => (hr k e).1), hg.block b hb (fun e => (hr b e.symm).2 rfl)⟩
theorem Keep.of_below {n0 b : Nat} {A W W' : World} (h : Keep n0 b A W) (hb : Below W.heap.size W W') (hn : n0 ≤ W.heap.size) (hlt : b < W.heap.size) : Keep n0 b A W' :=
  h.trans ⟨hb.mono hn, hb.block b hlt⟩

/-- The caller's invariant minds neither the iterator's own block nor what holds no cells. -/
def Abide {β : Type} (n0 b : Nat) (I : β → World → Prop) : Prop :=
  ∀ s W W' row, I s W → W.grownBy W' row → (∀ r, row = some r → n0 ≤ r ∧ (r = b ∨ ∃ o : Obj, W.heap[r]? = some o ∧ o.isCells = false)) → I s W'

theorem Abide.conj {β : Type} {n0 b : Nat} {I K : β → World → Prop} (h : Abide n0 b I) (k : Abide n0 b K) : Abide n0 b (fun s W => I s W ∧ K s W) :=
  fun s W W' row hs hg hr => ⟨h s W W' row hs.1 hg hr, k s W W' row hs.2 hg hr⟩
theorem abide_pure {β : Type} {n0 b : Nat} (p : β → Prop) : Abide n0 b (fun s _ => p s) := fun _ _ _ _ hs _ _ => hs
theorem abide_false {β : Type} {n0 b : Nat} : Abide n0 b (fun (_ : β) _ => False) := fun _ _ _ _ hs _ _ => hs
theorem abide_below {β : Type} {n0 b : Nat} {w : World} (hn : n0 ≤ w.heap.size) : Abide n0 b (fun (_ : β) W => Below n0 w W) :=
  fun _ _ _ _ hs hg hr => hs.grown hg (Nat.le_trans hn hs.size) (fun k e => (hr k e).1)
theorem boxed_abide {β : Type} {n0 b B : Nat} {t : TypeId} (hne : B ≠ b) (f : β → Value) : Abide n0 b (fun s W => Boxed W B t (f s)) := by
  intro s X Y row hv hg hr
  refine hv.kept hg (fun e => ?_)
  obtain ⟨_, rfl | ⟨o, ho, hc⟩⟩ := hr B e.symm
  · exact hne rfl
  · rw [show X.heap[B]? = _ from hv] at ho; cases ho; cases hc
theorem row_abide {n0 b B : Nat} {e : TypeId} {size k : Nat} {xs : List Value} {v : Value} {X Y : World} {row : Option Nat} (hbB : b < B)
    (h : X.ownsRow B e size v k xs) (hg : X.grownBy Y row) (hr : ∀ r, row = some r → n0 ≤ r ∧ (r = b ∨ ∃ o : Obj, X.heap[r]? = some o ∧ o.isCells = false)) : Y.ownsRow B e size v k xs := by
  refine h.kept hg ?_
  rcases h.2 with ⟨rfl, _⟩ | ⟨g, cap, cur, rfl, hge, hgb, _⟩
  · exact .inl rfl
  · refine .inr fun e' => ?_
    obtain ⟨_, h1 | ⟨o, ho, hc⟩⟩ := hr g (by simpa [Value.ownBlock] using e'.symm)
    · omega
    · rw [hgb] at ho; cases ho; cases hc

variable {F : Fence} {n : Nat} {P : Program}

/-- THE ITERATOR's CONTRACT: S: what has come when it has run out; Sp: what can be said of what has come so far. -/
def SeqB {α : Type} (F : Fence) (n : Nat) (P : Program) (g : Nat) (lb : Array Value) (encs : α → Array Value) (b : Nat) (Kp : World → World → Prop) (Pre : World → Prop) (S Sp : List α → Prop) : Prop :=
  ∀ (l : Nat) (J Jx : List α → World → Prop) (W : World), Pre W →
    (∀ pre A A', J pre A → A.grownBy A' (some b) → J pre A') →
    (∀ pre x W1, J pre W1 → Sp (pre ++ [x]) → YieldAt F (n - 1) P l (encs x) W1 fun e W' =>
      (e = .returned (.bool true) ∧ J (pre ++ [x]) W' ∧ Kp W1 W') ∨ (e = .returned (.bool false) ∧ Jx (pre ++ [x]) W')) →
    J [] W →
    CallsIn F n P g (#[.func (.yield l) #[] #[]] ++ lb) W fun e W' => (∃ v, e = .returned v) ∧ ((∃ xs, S xs ∧ J xs W') ∨ (∃ pre, Jx pre W'))

/-- How the body of a round may be left. -/
def postB {α : Type} (Kp : World → World → Prop) (I : List α → World → Prop) (Ix : Code → List α → World → Prop) (xs : List α) (W : World) : Exit → Act → World → Prop
  | .normal, _, W' => KeepsOthers W W' ∧ Kp W W' ∧ I xs W'
  | .ret, _, W' => KeepsOthers W W' ∧ Ix .ret xs W'
  | .exit id, _, W' => KeepsOthers W W' ∧ Ix (.exit id) xs W'
  | .goto t, _, W' => KeepsOthers W W' ∧ Ix (.goto t) xs W'
  | .panic _, _, _ => False
  | .outgrown, _, _ => False

theorem wpIn_rangeB {α : Type} {g : Operand} {ps : Array Tmp} {assign body : Code} {Q : Exit → Act → World → Prop} {a : Act} {w : World}
    (hro : F.round = none) (h1 : 1 ≤ n) {gf : Nat} {lb : Array Value} (hg : a.eval g = .func (.func gf) #[] lb) (hFg : F.fn gf) (eg : ∀ args w, (callFunc gf args).run P w = .ok (.enter gf args) w)
    {encs : α → Array Value} {n0 b : Nat} {Kp : World → World → Prop} {Pre : World → Prop} {S Sp : List α → Prop} (hseq : SeqB F (n - 1) P gf lb encs b Kp Pre S Sp)
    (hn : n0 ≤ w.heap.size) (hb : b < w.heap.size) (hnb : n0 ≤ b) (hKt : ∀ {A B C : World}, Kp A B → Kp B C → Kp A C) (hKput : ∀ (W : World) (l : Nat) (o : Obj), w.heap.size ≤ l → l < W.heap.size → Kp W (W.putObj l o))
    (hPre : ∀ o1 o2, Pre ((w.alloc o1).alloc o2)) (hps : ∀ x, (encs x).size = ps.size)
    (I : List α → World → Prop) (Ix : Code → List α → World → Prop) (hI : Abide n0 b I) (hIx : ∀ c, Abide n0 b (Ix c)) (h0 : I [] w) (a₁ : α → Act)
    (hassign : ∀ (l : Nat) (x : α) (W : World) (K : Act → World → Prop), K (a₁ x) W →
      assign.wpIn (F.inRound l) (n - 1 - 1) P (Exit.then K (fun _ _ _ => False)) { tmps := (ps.zip (encs x)).foldl (fun t (p, v) => t.setIfInBounds p v) a.tmps, defers := [] } W)
    (hbody : ∀ (l : Nat) (pre : List α) (x : α) (W : World), w.heap.size + 2 ≤ W.heap.size → I pre W → Sp (pre ++ [x]) → body.wpIn (F.inRound l) (n - 1 - 1) P (postB Kp I Ix (pre ++ [x]) W) (a₁ x) W)
    (hdone : ∀ (D : Nat) (xs : List α) (W : World), w.heap.size ≤ D → S xs → I xs W → W.heap[D]? = some (.deferred (some [])) → Q .normal { a with defers := { target := .collected D, args := #[] } :: a.defers } W)
    (hstop : ∀ (D : Nat) (c : Code) (pre : List α) (W : World), w.heap.size ≤ D → Ix c pre W → W.heap[D]? = some (.deferred (some [])) → c.wpIn F n P Q { a with defers := { target := .collected D, args := #[] } :: a.defers } W) :
    (Code.rangeFunc g ps assign body).wpIn F n P Q a w := by
  refine wpIn_rangeFunc fun fn hfn => ?_
  rw [hro]
  obtain ⟨rec, hrec⟩ : ∃ rec : LoopState → Option Code → Loop, rec = fun st pe => { state := st, pending := pe, fn, tmps := a.tmps, params := ps, assign, body, defers := w.heap.size } := ⟨_, rfl⟩
  obtain ⟨W1, hW1⟩ : ∃ W1, (w.alloc (.deferred (some []))).alloc (.loop (rec .ready none)) = W1 := ⟨_, rfl⟩
  have hs1 : W1.heap.size = w.heap.size + 2 := by rw [← hW1]; simp
  have hL1 : W1.heap[w.heap.size + 1]? = some (.loop (rec .ready none)) := by
    rw [← hW1]; have := World.alloc_heap_new (w.alloc (.deferred (some []))) (.loop (rec .ready none)); rwa [World.size_alloc] at this
  have hK1 : W1.heap[w.heap.size]? = some (.deferred (some [])) := by
    rw [← hW1]; exact (Below.heap_alloc _ _ _ (by simp)).trans (World.alloc_heap_new w _)
  have hP1 : Pre W1 := by rw [← hW1]; exact hPre _ _
  have hI1 : I [] W1 := by
    rw [← hW1]
    exact hI _ _ _ none (hI _ _ _ none h0 (World.grownBy_alloc w _ none) (fun r e => by cases e)) (World.grownBy_alloc _ _ none) (fun r e => by cases e)
  -- what the invariant minds of the record's turns
  have put : ∀ {K : List α → World → Prop}, Abide n0 b K → ∀ {s : List α} {W : World} {l : Nat} {o : Obj} (o' : Obj), K s W → n0 ≤ l → W.heap[l]? = some o → o.isCells = false → K s (W.putObj l o') :=
    by intro K hK s W l o o' hs hl hlo hc; exact hK s W _ (some l) hs (grownBy_putObj' W l o') (fun r e => by cases e; exact ⟨hl, .inr ⟨o, hlo, hc⟩⟩)
  refine ⟨w.heap.size + 1, [{ target := .collected w.heap.size, args := #[] }], W1, { target := .fn (.func gf) lb, args := #[.func (.yield (w.heap.size + 1)) #[] #[]] }, W1, gf,
    #[.func (.yield (w.heap.size + 1)) #[] #[]] ++ lb, W1, ?_, ?_, ?_, ?_, fun _ => h1, ?_⟩
  · rw [← hW1, hrec]; exact run_enterLoop_outer _ _ _ _ _
  · simp only [resolve, hg]
    simp [go_sem]
  · intro f' hf'; simp [Target.leads] at hf'; subst hf'; exact hFg
  · simp [invoke, go_sem, eg]
  · refine (hseq (w.heap.size + 1)
      (fun pre W => I pre W ∧ w.heap.size + 2 ≤ W.heap.size ∧ W.heap[w.heap.size + 1]? = some (.loop (rec .ready none)) ∧ W.heap[w.heap.size]? = some (.deferred (some [])))
      (fun pre W => ∃ c, Ix c pre W ∧ w.heap.size + 2 ≤ W.heap.size ∧ W.heap[w.heap.size + 1]? = some (.loop (rec .done (some c))) ∧ W.heap[w.heap.size]? = some (.deferred (some [])))
      W1 hP1 ?_ ?_ ⟨hI1, by omega, hL1, hK1⟩).mono ?_
    · rintro pre A A' ⟨hi, hs, hl, hk⟩ hg'
      exact ⟨hI _ _ _ _ hi hg' (fun r e => by cases e; exact ⟨hnb, .inl rfl⟩), Nat.le_trans hs hg'.size,
        (hg'.block _ (by omega) (fun e => by cases e; omega)).trans hl, (hg'.block _ (by omega) (fun e => by cases e; omega)).trans hk⟩
    · rintro pre x W ⟨hi, hs, hl, hk⟩ hSp
      have hlt : w.heap.size + 1 < W.heap.size := by omega
      have hy := run_yield (P := P) (args := encs x) hl (by rw [hrec]; exact hps x)
      rw [hrec] at hy
      refine ⟨fn, _, assign, body, hy, roundIn_of_wpIn hfn (hassign _ x W _ ⟨_, run_beginRound hl (by rw [hrec]), ?_⟩)⟩
      have hl2 : (W.putObj (w.heap.size + 1) (.loop { rec .ready none with state := .busy })).heap[w.heap.size + 1]? = some (.loop { rec .ready none with state := .busy }) := World.putObj_heap_same hlt
      have hk2 : (W.putObj (w.heap.size + 1) (.loop { rec .ready none with state := .busy })).heap[w.heap.size]? = some (.deferred (some [])) := (World.putObj_heap_other (by omega)).trans hk
      have hw2 : Kp W (W.putObj (w.heap.size + 1) (.loop { rec .ready none with state := .busy })) := hKput _ _ _ (by omega) hlt
      refine wpIn_mono (hbody _ pre x _ (by simpa using hs) (put hI _ hi (by omega) hl rfl) hSp) ?_
      have fin : ∀ (jump : Option Code) (W3 : World), KeepsOthers (W.putObj (w.heap.size + 1) (.loop { rec .ready none with state := .busy })) W3 →
          (Instr.endRound (w.heap.size + 1) jump).run P W3 = .ok (.bool jump.isNone) (W3.putObj (w.heap.size + 1) (.loop (rec (if jump.isNone then .ready else .done) jump))) ∧
          W3.heap[w.heap.size + 1]? = some (.loop { rec .ready none with state := .busy }) ∧ w.heap.size + 2 ≤ W3.heap.size ∧
          (W3.putObj (w.heap.size + 1) (.loop (rec (if jump.isNone then .ready else .done) jump))).heap[w.heap.size + 1]? = some (.loop (rec (if jump.isNone then .ready else .done) jump)) ∧
          (W3.putObj (w.heap.size + 1) (.loop (rec (if jump.isNone then .ready else .done) jump))).heap[w.heap.size]? = some (.deferred (some [])) := fun jump W3 hk3 => by
        have hl3 := hk3.same _ _ hl2 rfl
        have hrun := run_endRound (P := P) jump hl3
        have hsz := hk3.size
        rw [World.putObj_size] at hsz
        rw [hrec] at hrun ⊢
        exact ⟨hrun, by rw [hrec] at hl3; exact hl3, by omega, World.putObj_heap_same (Array.getElem?_eq_some_iff.1 hl3).1, (World.putObj_heap_other (by omega)).trans (hk3.same _ _ hk2 rfl)⟩
      rintro e a3 W3 hp
      cases e with
      | normal =>
        obtain ⟨hk3, hkp3, hi3⟩ := hp
        obtain ⟨hr, hl3, hs3, hl4, hk4⟩ := fin none W3 hk3
        exact ⟨_, _, hr, .inl ⟨rfl, ⟨put hI _ hi3 (by omega) hl3 rfl, by simpa using hs3, hl4, hk4⟩, hKt (hKt hw2 hkp3) (hKput _ _ _ (by omega) (by omega))⟩⟩
      | ret =>
        obtain ⟨hk3, hi3⟩ := hp
        obtain ⟨hr, hl3, hs3, hl4, hk4⟩ := fin (some .ret) W3 hk3
        exact ⟨_, _, hr, .inr ⟨rfl, .ret, put (hIx _) _ hi3 (by omega) hl3 rfl, by simpa using hs3, hl4, hk4⟩⟩
      | exit id =>
        obtain ⟨hk3, hi3⟩ := hp
        obtain ⟨hr, hl3, hs3, hl4, hk4⟩ := fin (some (.exit id)) W3 hk3
        exact ⟨_, _, hr, .inr ⟨rfl, .exit id, put (hIx _) _ hi3 (by omega) hl3 rfl, by simpa using hs3, hl4, hk4⟩⟩
      | goto t =>
        obtain ⟨hk3, hi3⟩ := hp
        obtain ⟨hr, hl3, hs3, hl4, hk4⟩ := fin (some (.goto t)) W3 hk3
        exact ⟨_, _, hr, .inr ⟨rfl, .goto t, put (hIx _) _ hi3 (by omega) hl3 rfl, by simpa using hs3, hl4, hk4⟩⟩
      | panic ch => exact hp.elim
      | outgrown => exact hp.elim
    · rintro e W2 ⟨⟨v, rfl⟩, (⟨xs, hS, hi, hs, hl, hk⟩ | ⟨pre, c, hi, hs, hl, hk⟩)⟩
      · exact ⟨none, _, by have := run_endLoop (P := P) hl (by rw [hrec]; simp); rw [hrec] at this; exact this, hdone _ xs _ (Nat.le_refl _) hS (put hI _ hi (by omega) hl rfl) ((World.putObj_heap_other (by omega)).trans hk)⟩
      · exact ⟨some c, _, by have := run_endLoop (P := P) hl (by rw [hrec]; simp); rw [hrec] at this; exact this, hstop _ c pre _ (Nat.le_refl _) (put (hIx c) _ hi (by omega) hl rfl) ((World.putObj_heap_other (by omega)).trans hk)⟩
end Go.Proofs.YtegjlgdbipfpaaaGreatDoor
