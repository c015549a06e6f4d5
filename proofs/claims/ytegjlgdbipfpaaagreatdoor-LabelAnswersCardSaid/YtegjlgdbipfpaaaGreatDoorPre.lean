/-
  Regions that draw their order: a first stretch of quiet operations is walked once, in the order of the text, though louder operations follow; behind it the walk goes on from every world of the class.
-/
import Derived.Deep.Quiet
import Derived.OrdersHeld
namespace Go.Proofs.YtegjlgdbipfpaaaGreatDoor
open Go

section
variable {P : Program} {ops : Array Oper} {md : Region.Mode} {C : World → Prop}

/-- The first n operations, in whatever order. -/
def wpPre (P : Program) (md : Region.Mode) (ops : Array Oper) (C : World → Prop) (Q : Array Bool → Act → Prop) : Nat → Array Bool → Act → Prop
  | 0, listed, a => Q listed a
  | n + 1, listed, a => Region.ready md ops listed ≠ [] ∧ ∀ i ∈ Region.ready md ops listed, qOp P ops C i (wpPre P md ops C Q n (listed.setIfInBounds i true)) a

theorem wpAnyH_of_pre {Q : Array Bool → Act → Prop} {Q' : Exit → Act → World → Prop} {fuel : Nat} (hQ : ∀ listed a w, C w → Q listed a → wpAnyH P md ops Q' C fuel listed a w) :
    ∀ (n : Nat) (listed : Array Bool) (a : Act) (w : World), C w → wpPre P md ops C Q n listed a → wpAnyH P md ops Q' C (n + fuel) listed a w
  | 0, listed, a, w, hw, h => by rw [Nat.zero_add]; exact hQ listed a w hw h
  | n + 1, listed, a, w, hw, h => by
    rw [Nat.add_right_comm]
    exact ⟨fun h0 => absurd h0 h.1, fun i hi => wpOp_of_qOp hw (fun a' w' hw' hk => ⟨hw', wpAnyH_of_pre hQ n _ a' w' hw' hk⟩) (h.2 i hi)⟩

theorem wpAnyH_of_quiet {Q : Act → Prop} {Q' : Exit → Act → World → Prop} (hQ : ∀ a w, C w → Q a → Q' .normal a w) : ∀ (fuel : Nat) (listed : Array Bool) (a : Act) (w : World), C w →
    wpAnyQ P md ops C Q fuel listed a → wpAnyH P md ops Q' C fuel listed a w
  | 0, _, _, _, hw, h => ⟨h.1, hQ _ _ hw h.2⟩
  | fuel + 1, _, _, _, hw, h => ⟨fun h0 => hQ _ _ hw (h.1 h0), fun i hi => wpOp_of_qOp hw (fun a' w' hw' hk => ⟨hw', wpAnyH_of_quiet hQ fuel _ a' w' hw' hk⟩) (h.2 i hi)⟩

/-- What is listed waits for nothing that isn't. -/
def ClosedL (md : Region.Mode) (ops : Array Oper) (listed : Array Bool) : Prop :=
  ∀ j o, ops[j]? = some o → listed.getD j false = true → ∀ e ∈ o.after, Region.binds md e = true → listed.getD e.on false = true
/-- Which of the first m + 1 are left. -/
def leftL (m : Nat) (listed : Array Bool) : List Nat := (List.range (m + 1)).filter fun k => !listed.getD k false

theorem getD_both {listed : Array Bool} {k : Nat} (h : k < listed.size) : listed.getD k true = listed.getD k false := by
  simp [h]
theorem ClosedL.put {listed : Array Bool} {j : Nat} (h : ClosedL md ops listed) (hj : j ∈ Region.ready md ops listed) : ClosedL md ops (listed.setIfInBounds j true) := by
  intro k o ho hk e he hb
  by_cases hkj : k = j
  · subst hkj
    obtain ⟨_, o', ho', hall⟩ := mem_ready.1 hj
    obtain rfl : o = o' := Option.some.inj (ho.symm.trans ho')
    exact getD_set_true (hall e he hb)
  · rw [getD_set_ne false (Ne.symm hkj)] at hk
    exact getD_set_true (h k o ho hk e he hb)
theorem leftL_put {m j : Nat} {listed : Array Bool} (hj : j ≤ m) (hs : j < listed.size) (h0 : listed.getD j false = false) :
    (leftL m listed).length = (leftL m (listed.setIfInBounds j true)).length + 1 := by
  have h : leftL m (listed.setIfInBounds j true) = (leftL m listed).filter (fun k => !(k == j)) := by
    unfold leftL
    rw [List.filter_filter]
    apply List.filter_congr
    intro k _
    by_cases hk : j = k
    · subst hk; simp [hs]
    · rw [getD_set_ne false hk]
      have : (k == j) = false := by simpa using fun h => hk h.symm
      simp [this]
  rw [h]
  have hmem : j ∈ leftL m listed := by
    unfold leftL
    rw [List.mem_filter, List.mem_range]
    exact ⟨by omega, by rw [h0]; rfl⟩
  have hnd : (leftL m listed).Nodup := List.Nodup.sublist List.filter_sublist List.nodup_range
  have key : ∀ l : List Nat, l.Nodup → j ∈ l → l.length = (l.filter (fun k => !(k == j))).length + 1 := by
    intro l
    induction l with
    | nil => intro _ h; cases h
    | cons x l ih =>
      intro hn hm
      rw [List.nodup_cons] at hn
      by_cases hx : x = j
      · subst hx
        have : l.filter (fun k => !(k == x)) = l := by
          rw [List.filter_eq_self]
          intro k hk
          have : k ≠ x := fun h => hn.1 (h ▸ hk)
          simpa using this
        simp [this]
      · rcases List.mem_cons.1 hm with h | h
        · exact absurd h.symm hx
        · have := ih hn.2 h
          simp [hx, this]
  exact key _ hnd hmem

/-- Whoever stands behind m waits for all that is up to m. -/
def GateL (md : Region.Mode) (ops : Array Oper) (m : Nat) : Prop := ∀ listed, ClosedL md ops listed → ∀ j ∈ Region.ready md ops listed, m < j → ∀ k ≤ m, listed.getD k false = true

def gateB (md : Region.Mode) (ops : Array Oper) (m : Nat) : Bool :=
  ((List.range m).all fun k => (List.range (m + 1)).any fun c => decide (k < c) && ((ops[c]?).map fun o => o.after.any fun e => Region.binds md e && e.on == k).getD false) &&
  ((List.range ops.size).all fun j => decide (j ≤ m) || ((ops[j]?).map fun o => o.after.any fun e => Region.binds md e && decide (m ≤ e.on) && decide (e.on < j)).getD false)

theorem gate_of {m : Nat} (h : gateB md ops m = true) : GateL md ops m := by
  intro listed hc j hj hmj
  unfold gateB at h
  rw [Bool.and_eq_true, List.all_eq_true, List.all_eq_true] at h
  obtain ⟨h1, h2⟩ := h
  have hm1 : listed.getD m false = true := by
    have key : ∀ n j, j ≤ n → m < j → (∃ o, ops[j]? = some o ∧ ∀ e ∈ o.after, Region.binds md e = true → listed.getD e.on false = true) → listed.getD m false = true := by
      intro n
      induction n with
      | zero => intro j h0 h1; omega
      | succ n ih =>
        rintro j hjn hj' ⟨o, ho, hall⟩
        have hlt : j < ops.size := (Array.getElem?_eq_some_iff.1 ho).1
        have h3 := h2 j (List.mem_range.2 hlt)
        rw [Bool.or_eq_true] at h3
        rcases h3 with h3 | h3
        · simp at h3; omega
        · simp only [ho, Option.map_some, Option.getD_some] at h3
          obtain ⟨e, he, hb⟩ := Array.any_eq_true'.1 h3
          simp only [Bool.and_eq_true, decide_eq_true_eq] at hb
          have hl := hall e he hb.1.1
          rcases Nat.lt_or_ge m e.on with h4 | h4
          · have hlt2 : e.on < ops.size := by omega
            refine ih e.on (by omega) h4 ⟨ops[e.on], by simp [hlt2], fun e' he' hb' => hc e.on _ (by simp [hlt2]) hl e' he' hb'⟩
          · have : e.on = m := by omega
            rw [← this]; exact hl
    obtain ⟨_, o, ho, hall⟩ := mem_ready.1 hj
    exact key j j (Nat.le_refl _) hmj ⟨o, ho, hall⟩
  have down : ∀ d k, k + d = m → listed.getD k false = true := by
    intro d
    induction d using Nat.strongRecOn with
    | _ d ih =>
      intro k hk
      rcases Nat.eq_zero_or_pos d with h0 | h0
      · have : k = m := by omega
        rw [this]; exact hm1
      · have h3 := h1 k (List.mem_range.2 (by omega))
        obtain ⟨c, hcm, hb⟩ := List.any_eq_true.1 h3
        rw [List.mem_range] at hcm
        rw [Bool.and_eq_true, decide_eq_true_eq] at hb
        cases ho : ops[c]? with
        | none => simp [ho] at hb
        | some o =>
          simp only [ho, Option.map_some, Option.getD_some] at hb
          obtain ⟨e, he, hb2⟩ := Array.any_eq_true'.1 hb.2
          simp only [Bool.and_eq_true, beq_iff_eq] at hb2
          have := hc c o ho (ih (m - c) (by omega) c (by omega)) e he hb2.1
          rw [hb2.2] at this
          exact this
  intro k hk
  exact down (m - k) k (by omega)

theorem wpPre_first {Q : Array Bool → Act → Prop} {m i : Nat} {oi : Oper} {v : Value} (hi : ops[i]? = some oi) (hsel : ∀ (j : Nat) (o : Oper) cs b, ops[j]? = some o → o.op ≠ .select cs b) (hG : GateL md ops m) (him : i ≤ m) :
    ∀ (n : Nat) (listed : Array Bool) (a : Act), listed.size = ops.size → ClosedL md ops listed → (leftL m listed).length = n + 1 →
      (∀ j oj, ops[j]? = some oj → j ≠ i → listed.getD j true = false → (∀ e ∈ oj.after, Region.binds md e = true → e.on ≠ i) → oi.apart ops oj = true) →
      i ∈ Region.ready md ops listed → YieldsIn P ops C oi v a →
      wpPre P md ops C Q n (listed.setIfInBounds i true) (a.put oi.dst v) → wpPre P md ops C Q (n + 1) listed a := by
  intro n
  induction n with
  | zero =>
    intro listed a hsz hcl hle _ hr hy H
    refine ⟨fun h => (by rw [h] at hr; cases hr), fun j hj => ?_⟩
    by_cases hji : j = i
    · subst hji; exact hy.qOp hi H
    · exfalso
      have hilt : i < ops.size := (Array.getElem?_eq_some_iff.1 hi).1
      have hi0 : listed.getD i false = false := by rw [← getD_both (by omega)]; exact (mem_ready.1 hr).1
      obtain ⟨hj0, oj, hoj, _⟩ := mem_ready.1 hj
      have hjlt : j < ops.size := (Array.getElem?_eq_some_iff.1 hoj).1
      have hj0' : listed.getD j false = false := by rw [← getD_both (by omega)]; exact hj0
      rcases Nat.lt_or_ge m j with hmj | hmj
      · have := hG listed hcl j hj hmj i him
        rw [hi0] at this; cases this
      · have e1 := leftL_put (m := m) him (by omega) hi0
        have hjl : (listed.setIfInBounds i true).getD j false = false := by rw [getD_set_ne false (Ne.symm hji)]; exact hj0'
        have e2 := leftL_put (m := m) (listed := listed.setIfInBounds i true) hmj (by simp; omega) hjl
        omega
  | succ n ih =>
    intro listed a hsz hcl hle hfree hr hy H
    refine ⟨fun h => (by rw [h] at hr; cases hr), fun j hj => ?_⟩
    by_cases hji : j = i
    · subst hji; exact hy.qOp hi H
    · have h1 := H.2 j (ready_mono hj hji)
      have hilt : i < ops.size := (Array.getElem?_eq_some_iff.1 hi).1
      have hi0 : listed.getD i false = false := by rw [← getD_both (by omega)]; exact (mem_ready.1 hr).1
      obtain ⟨hjun, oj, hoj, hall⟩ := mem_ready.1 hj
      have hjlt : j < ops.size := (Array.getElem?_eq_some_iff.1 hoj).1
      have hj0' : listed.getD j false = false := by rw [← getD_both (by omega)]; exact hjun
      have hjm : j ≤ m := by
        rcases Nat.lt_or_ge m j with hmj | hmj
        · have := hG listed hcl j hj hmj i him
          rw [hi0] at this; cases this
        · exact hmj
      have hnot : ∀ e ∈ oj.after, Region.binds md e = true → e.on ≠ i := fun e he hb heq => by
        have h1 := hall e he hb
        rw [heq, hi0] at h1; cases h1
      have h2 := qOp_put hoj (hfree j oj hoj hji hjun hnot) (fun cs b => hsel i oi cs b hi) (fun cs b => hsel j oj cs b hoj) hy h1
      have hfree' : ∀ k ok, ops[k]? = some ok → k ≠ i → (listed.setIfInBounds j true).getD k true = false →
          (∀ e ∈ ok.after, Region.binds md e = true → e.on ≠ i) → oi.apart ops ok = true := fun k ok hk hki hun hno => by
        refine hfree k ok hk hki ?_ hno
        by_cases hjk : j = k
        · subst hjk; exact hjun
        · rw [getD_set_ne true hjk] at hun; exact hun
      have e1 := leftL_put (m := m) hjm (by omega) hj0'
      refine qOp_mono (fun a' h3 => ih (listed.setIfInBounds j true) a' (by simpa using hsz) (hcl.put hj) (by omega) hfree' (ready_mono hr (Ne.symm hji)) h3.1 ?_) h2
      rw [Array.setIfInBounds_comm _ _ hji]
      exact h3.2

def lexN (md : Region.Mode) (ops : Array Oper) : Nat → Nat → Array Bool → Bool
  | 0, _, _ => true
  | n + 1, k, listed => (Region.ready md ops listed).contains k && Region.free md ops listed k && lexN md ops n (k + 1) (listed.setIfInBounds k true)
def listedTo : Nat → Nat → Array Bool → Array Bool
  | 0, _, listed => listed
  | n + 1, k, listed => listedTo n (k + 1) (listed.setIfInBounds k true)

theorem wpPre_lex {Q : Array Bool → Act → Prop} {m : Nat} (hs : Region.noSelect ops = true) (hG : GateL md ops m) : ∀ (l : List Oper) (k : Nat) (listed : Array Bool) (a : Act), (∀ j < l.length, l[j]? = ops[k + j]?) →
    k + l.length = m + 1 → listed.size = ops.size → ClosedL md ops listed → (leftL m listed).length = l.length →
    lexN md ops l.length k listed = true → wpQuiet P ops C (fun a => Q (listedTo l.length k listed) a) l a → wpPre P md ops C Q l.length listed a
  | [], _, _, _, _, _, _, _, _, _, h => h
  | o :: l, k, listed, a, hl, hkm, hsz, hcl, hle, hB, h => by
    have h0 : ops[k]? = some o := by simpa using (hl 0 (by simp)).symm
    simp only [List.length_cons, lexN, Bool.and_eq_true] at hB
    obtain ⟨⟨hr, hf⟩, hB'⟩ := hB
    have hst : qOp P ops C k (wpQuiet P ops C (fun a => Q (listedTo (l.length + 1) k listed) a) l) a := by unfold qOp; simp only [h0]; exact h
    obtain ⟨v, hy, hK⟩ := yieldsIn_of_qOp h0 hst
    have hr' : k ∈ Region.ready md ops listed := by simpa using hr
    simp only [List.length_cons] at hkm hle
    have hk0 : listed.getD k false = false := by
      have hlt : k < ops.size := (Array.getElem?_eq_some_iff.1 h0).1
      rw [← getD_both (by omega)]; exact (mem_ready.1 hr').1
    have hlt : k < ops.size := (Array.getElem?_eq_some_iff.1 h0).1
    have e1 := leftL_put (m := m) (j := k) (by omega) (by omega) hk0
    refine wpPre_first h0 (Region.noSelect_spec hs) hG (by omega) l.length listed a hsz hcl hle (Region.free_spec h0 hf) hr' hy ?_
    exact wpPre_lex hs hG l (k + 1) _ _ (fun j hj => by have := hl (j + 1) (by simp; omega); simpa [Nat.add_assoc, Nat.add_comm 1 j] using this) (by omega) (by simpa using hsz) (hcl.put hr') (by omega) hB' hK

theorem leftL_start {m n : Nat} (h : m < n) : (leftL m (Array.replicate n false)).length = m + 1 := by
  have : leftL m (Array.replicate n false) = List.range (m + 1) := by
    unfold leftL
    rw [List.filter_eq_self]
    intro k hk
    rw [List.mem_range] at hk
    have : k < n := by omega
    simp [this]
  rw [this, List.length_range]

/-- The first k of k + r are listed. -/
def upto (k r : Nat) : Array Bool := (List.replicate k true ++ List.replicate r false).toArray
theorem upto_size (k r : Nat) : (upto k r).size = k + r := by simp [upto]
theorem upto_get (k r j : Nat) (d : Bool) : (upto k r).getD j d = if j < k then true else if j < k + r then false else d := by
  unfold upto
  rcases Nat.lt_or_ge j k with h | h
  · have h2 : j < k + r := by omega
    simp [h, h2]
  · rcases Nat.lt_or_ge j (k + r) with h2 | h2
    · have h3 : j - k < r := by omega
      have h4 : ¬ j < k := by omega
      simp [List.getElem_append_right, h, h2, h4]
    · have h4 : ¬ j < k := by omega
      have h5 : ¬ j < k + r := by omega
      simp [h4, h5]
theorem upto_put (k r : Nat) : (upto k (r + 1)).setIfInBounds k true = upto (k + 1) r := by
  apply Array.ext_getElem?
  intro j
  have e1 := upto_get k (r + 1) j true
  by_cases hjk : k = j
  · subst hjk
    have : k < (upto k (r + 1)).size := by rw [upto_size]; omega
    have h2 : k < (upto (k + 1) r).size := by rw [upto_size]; omega
    have e2 := upto_get (k + 1) r k false
    rw [if_pos (by omega)] at e2
    simp [this, h2] at e2 ⊢
    exact e2
  · rw [Array.getElem?_setIfInBounds_ne hjk]
    rcases Nat.lt_or_ge j (k + 1 + r) with h | h
    · have h1 : j < (upto k (r + 1)).size := by rw [upto_size]; omega
      have h2 : j < (upto (k + 1) r).size := by rw [upto_size]; omega
      have e1 := upto_get k (r + 1) j true
      have e2 := upto_get (k + 1) r j true
      rw [Array.getElem?_eq_getElem h1, Array.getElem?_eq_getElem h2]
      simp [h1] at e1
      simp [h2] at e2
      rw [e1, e2]
      by_cases h3 : j < k
      · have h4 : j < k + 1 := by omega
        simp [h3, h4]
      · have h4 : ¬ j < k + 1 := by omega
        have h5 : j < k + (r + 1) := by omega
        simp [h3, h4, h5, h]
    · rw [Array.getElem?_eq_none (by rw [upto_size]; omega), Array.getElem?_eq_none (by rw [upto_size]; omega)]
theorem upto_all (k r n : Nat) : listedTo n k (upto k (n + r)) = upto (k + n) r := by
  induction n generalizing k with
  | zero => simp [listedTo]
  | succ n ih =>
    unfold listedTo
    rw [show n + 1 + r = n + r + 1 by omega, upto_put, ih, show k + 1 + n = k + (n + 1) by omega]
theorem upto_zero (n : Nat) : Array.replicate n false = upto 0 n := by simp [upto]

/-- Number k may come up when all before it have; whoever comes behind it waits for it or is apart from it. -/
def stepK (md : Region.Mode) (ops : Array Oper) (k : Nat) : Bool :=
  match ops[k]? with
  | none => false
  | some o => (o.after.all fun e => !Region.binds md e || decide (e.on < k)) &&
    (List.range ops.size).all fun j => decide (j ≤ k) || match ops[j]? with
      | some oj => oj.after.any (fun e => Region.binds md e && e.on == k) || o.apart ops oj
      | none => true
def lexK (md : Region.Mode) (ops : Array Oper) : Nat → Nat → Bool
  | 0, _ => true
  | n + 1, k => stepK md ops k && lexK md ops n (k + 1)

theorem stepK_spec {k r : Nat} (h : stepK md ops k = true) : k ∈ Region.ready md ops (upto k (r + 1)) ∧ Region.free md ops (upto k (r + 1)) k = true := by
  unfold stepK at h
  cases ho : ops[k]? with
  | none => rw [ho] at h; cases h
  | some o =>
    rw [ho] at h
    simp only [Bool.and_eq_true] at h
    obtain ⟨h1, h2⟩ := h
    refine ⟨mem_ready.2 ⟨?_, o, ho, fun e he hb => ?_⟩, ?_⟩
    · rw [upto_get, if_neg (by omega), if_pos (by omega)]
    · rw [Array.all_eq_true_iff_forall_mem] at h1
      have := h1 e he
      simp only [hb, Bool.not_true, Bool.false_or, decide_eq_true_eq] at this
      rw [upto_get, if_pos this]
    · unfold Region.free
      simp only [ho]
      rw [List.all_eq_true] at h2 ⊢
      intro j hj
      have h3 := h2 j hj
      rw [List.mem_range] at hj
      rw [Bool.or_eq_true] at h3
      rw [Bool.or_eq_true]
      rcases h3 with h3 | h3
      · left
        rw [decide_eq_true_eq] at h3
        rw [Bool.or_eq_true]
        rcases Nat.lt_or_ge j k with h4 | h4
        · right; rw [upto_get, if_pos h4]
        · left; have : j = k := by omega
          simp [this]
      · right; exact h3
theorem lexN_of : ∀ (n k r : Nat), ops.size = k + (n + r) → lexK md ops n k = true → lexN md ops n k (upto k (n + r)) = true
  | 0, _, _, _, _ => rfl
  | n + 1, k, r, hsz, h => by
    unfold lexK at h
    rw [Bool.and_eq_true] at h
    have := stepK_spec (r := n + r) h.1
    unfold lexN
    rw [show n + 1 + r = n + r + 1 by omega]
    simp only [Bool.and_eq_true]
    refine ⟨⟨by simpa using this.1, this.2⟩, ?_⟩
    rw [upto_put]
    exact lexN_of n (k + 1) r (by omega) h.2
theorem lexFrom_of : ∀ (n k : Nat), ops.size = k + n → lexK md ops n k = true → Region.lexFrom md ops n k (upto k n) = true
  | 0, k, hsz, _ => by
    unfold Region.lexFrom
    have : Region.ready md ops (upto k 0) = [] := by
      rw [List.eq_nil_iff_forall_not_mem]
      intro j hj
      obtain ⟨h0, o, ho, _⟩ := mem_ready.1 hj
      have hlt : j < ops.size := (Array.getElem?_eq_some_iff.1 ho).1
      rw [upto_get, if_pos (by omega)] at h0
      cases h0
    rw [this]; rfl
  | n + 1, k, hsz, h => by
    unfold lexK at h
    rw [Bool.and_eq_true] at h
    have := stepK_spec (r := n) h.1
    unfold Region.lexFrom
    simp only [Bool.and_eq_true]
    refine ⟨⟨by simpa using this.1, this.2⟩, ?_⟩
    rw [upto_put]
    exact lexFrom_of n (k + 1) (by omega) h.2

/-- **A first stretch, up to number m, is quiet**; whoever stands behind waits for all of it: it is walked once; what follows is asked in every world of the class. -/
theorem wp_region_pre {id : Nat} {Q : Exit → Act → World → Prop} {a : Act} {w : World} {l : List Oper} (m n : Nat) (hm : P.follows .mixedOrders = true) (hs : Region.noSelect l.toArray = true) (hn : l.length = m + 1 + n) (hG : gateB .any l.toArray m = true)
    (hB : lexK .any l.toArray (m + 1) 0 = true) (hC : C w.drew)
    (h : wpQuiet P l.toArray C (fun a' => ∀ w', C w' → wpAnyH P .any l.toArray Q C n (upto (m + 1) n) a' w') (l.take (m + 1)) a) : (Code.region id l.toArray true).wp P Q a w := by
  refine wp_region_held (S := C) hm ?_
  have hlen : (l.take (m + 1)).length = m + 1 := by simp; omega
  have hB' := lexN_of (m + 1) 0 n (by simp; omega) hB
  have hto : listedTo (m + 1) 0 (upto 0 (m + 1 + n)) = upto (m + 1) n := by rw [upto_all, Nat.zero_add]
  have hp := wpPre_lex (P := P) (C := C) (Q := fun L a' => ∀ w', C w' → wpAnyH P .any l.toArray Q C n L a' w') (m := m) hs (gate_of hG) (l.take (m + 1)) 0 (upto 0 (m + 1 + n)) a
    (fun j hj => by rw [hlen] at hj; simp [hj]) (by omega) (by rw [upto_size]; simp; omega) (fun j o ho hj => by
      exfalso
      have hlt : j < m + 1 + n := by
        have := (Array.getElem?_eq_some_iff.1 ho).1
        simp only [List.size_toArray] at this
        omega
      rw [upto_get, if_neg (by omega), if_pos (by omega)] at hj
      cases hj) (by rw [hlen, ← upto_zero]; exact leftL_start (by omega)) (by rw [hlen]; exact hB') (by rw [hlen, hto]; exact h)
  have := wpAnyH_of_pre (fun L a' w' hw' hk => hk w' hw') _ _ a w.drew hC hp
  rw [hlen] at this
  rw [List.size_toArray, hn, upto_zero]
  exact this
/-- The last stretch is quiet. -/
theorem wpAnyH_end {Q : Exit → Act → World → Prop} {n : Nat} {listed : Array Bool} {a : Act} {w : World} {l : List Oper} (k : Nat) (hs : Region.noSelect l.toArray = true) (hn : l.length = k + n) (hL : listed = upto k n) (hB : lexK .any l.toArray n k = true)
    (hC : C w) (h : wpQuiet P l.toArray C (fun a' => ∀ w', C w' → Q .normal a' w') (l.drop k) a) : wpAnyH P .any l.toArray Q C n listed a w := by
  have hd : (l.drop k).length = n := by simp; omega
  subst hL
  refine wpAnyH_of_quiet (Q := fun a' => ∀ w', C w' → Q .normal a' w') (fun a w hw h => h w hw) _ _ _ _ hC ?_
  have := wpAnyQ_lex (P := P) (C := C) (Q := fun a' => ∀ w', C w' → Q .normal a' w') (md := .any) hs (l.drop k) k (upto k n) a (fun j => by simp) (by rw [hd]; exact lexFrom_of n k (by simp; omega) hB) h
  rw [hd] at this
  exact this
/-- The whole region is quiet. -/
theorem wp_region_quietK {id : Nat} {Q : Exit → Act → World → Prop} {a : Act} {w : World} {l : List Oper} (n : Nat) (hm : P.follows .mixedOrders = true) (hs : Region.noSelect l.toArray = true) (hn : l.length = n)
    (hB : lexK .any l.toArray n 0 = true) (hC : C w.drew) (h : wpQuiet P l.toArray C (fun a' => ∀ w', C w' → Q .normal a' w') l a) : (Code.region id l.toArray true).wp P Q a w := by
  refine wp_region_held (S := C) hm ?_
  rw [List.size_toArray, hn, upto_zero]
  exact wpAnyH_end 0 hs (by omega) rfl hB hC h
end
end Go.Proofs.YtegjlgdbipfpaaaGreatDoor
