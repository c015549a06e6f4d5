/-
  word.From over slices.Backward; label.From.
-/
import Derived.Test.YtegjlgdbipfpaaaGreatDoorLabC
namespace Go.Proofs.YtegjlgdbipfpaaaGreatDoor
open Go Go.RowKit Go.Shelf
attribute [local go_sem] Oper.semAt_some wide_fn wide_depth

theorem backward_any (a : Option Addr) (len cap : Nat) (w : World) :
    Calls Tryz.prog 43 #[.slice a len cap] w fun e w' => e = .returned (.func (.func 58) #[] #[.pointer (some ⟨w.heap.size, 0, none⟩)]) ∧ w.alloc (.cells #[.slice a len cap] 25) = w' := by
  go_enter Tryz.func43, Tryz.ntmps43
  go_wp2
  go_ret
  exact ⟨rfl, rfl⟩

def nthB (L : List Nat) (k : Nat) : Nat := L[k]?.getD 0
def bk (L : List Nat) : Nat → List (Nat × Nat)
  | 0 => []
  | k + 1 => (k, nthB L k) :: bk L k
def pairVal (p : Nat × Nat) : Array Value := #[.int .i64 (p.1 : Int), .int .u8 (p.2 : Int)]

set_option maxRecDepth 100000 in
set_option maxHeartbeats 1000000 in
theorem back1_any (n b n0 g off cap : Nat) (L : List Nat) (hm : L.length ≤ 8) (l : Nat) (J Jx : List (Nat × Nat) → World → Prop) (W : World)
    (hbx : Boxed W b 25 (.slice (some ⟨g, off, none⟩) L.length cap)) (hcell : ∀ j, j < L.length → W.cell? ⟨g, off + j, none⟩ = some (.int .u8 (nthB L j : Int))) (hgn : g < n0)
    (hY : ∀ pre x W1, J pre W1 → pre ++ [x] <+: bk L L.length → YieldAt Fence.wide (n - 1) Tryz.prog l (pairVal x) W1 fun e W' =>
      (e = .returned (.bool true) ∧ J (pre ++ [x]) W' ∧ Keep n0 b W1 W') ∨ (e = .returned (.bool false) ∧ Jx (pre ++ [x]) W'))
    (h0 : J [] W) :
    CallsIn Fence.wide n Tryz.prog 58 (#[.func (.yield l) #[] #[]] ++ #[.pointer (some ⟨b, 0, none⟩)]) W fun e W' => (∃ v, e = .returned v) ∧
      ((∃ xs, xs = bk L L.length ∧ J xs W') ∨ (∃ pre, Jx pre W')) := by
  obtain ⟨N, hN⟩ : ∃ N, L.length = N := ⟨_, rfl⟩
  rw [hN] at hbx hcell hm hY ⊢
  have hcb := hbx.cell
  refine callsIn_of_wp Tryz.func58 rfl trivial ?_ rfl
  simp only [Tryz.ntmps58, List.size_toArray, List.length_cons, List.length_nil, Nat.reduceAdd, Nat.reduceSub, Array.replicate_succ, Array.replicate_zero, List.push_toArray, List.append_toArray, List.nil_append, List.cons_append]
  gi_wp2
  gi_loopw [3] (fun c wr => ∃ (pre : List (Nat × Nat)) (k : Nat), k ≤ N ∧ c = .int .i64 ((k : Int) - 1) ∧ bk L N = pre ++ bk L k ∧ Boxed wr b 25 (.slice (some ⟨g, off, none⟩) N cap) ∧
      (∀ j, j < N → wr.cell? ⟨g, off + j, none⟩ = some (.int .u8 (nthB L j : Int))) ∧ J pre wr) (fun c _ => (intOf c + 1).toNat)
  case atStart => exact ⟨[], N, Nat.le_refl _, rfl, rfl, hbx, hcell, h0⟩
  case round =>
    obtain ⟨pre, k, hk, rfl, hx, hb, hcl, hJs⟩ := hrel
    have hcb := hb.cell
    cases k with
    | zero =>
      have hx' : bk L N = pre := by rw [hx]; simp [bk]
      have HX := Lib.hid hx'
      clear hx hx'
      gi_wp2
      go_end0
      exact ⟨⟨_, rfl⟩, .inl ⟨pre, HX.out.symm, hJs⟩⟩
    | succ k =>
      have hcc := hcl k (by omega)
      obtain ⟨fn, tmps, assign, body, hy, hR⟩ := hY pre (k, nthB L k) wr hJs (by rw [hx]; exact ⟨bk L k, by simp [bk]⟩)
      have HX := Lib.hid hx
      have HC := Lib.hid hcl
      unfold pairVal at hy
      dsimp only at hy
      obtain ⟨y, hyv⟩ : ∃ y, nthB L k = y := ⟨_, rfl⟩
      rw [hyv] at hcc hy
      have HY := Lib.hid hyv
      clear hx hcl hyv
      have e1 : (((k + 1 : Nat) : Int) - 1) = (k : Int) := by omega
      rw [e1]
      gi_wp2
      refine hR.mono ?_
      rintro e W3 (⟨rfl, hJ3, hk3⟩ | ⟨rfl, hJx3⟩)
      · have hb3 : Boxed W3 b 25 (.slice (some ⟨g, off, none⟩) N cap) := hk3.at_.trans hb
        have hcl3 : Hid (∀ j, j < N → W3.cell? ⟨g, off + j, none⟩ = some (.int .u8 (nthB L j : Int))) := Lib.hid (fun j hj => (hk3.below.cell (p := ⟨g, off + j, none⟩) hgn).trans (HC.out j hj))
        clear hcb hcc
        gi_wp2
        go_roundw
        case rel => exact ⟨pre ++ [(k, nthB L k)], k, by omega, rfl, by rw [HX.out]; simp [bk], hb3, hcl3.out, hJ3⟩
        case measure => simp [intOf]
      · clear hcb hcc
        gi_wp2
        refine bodyPost_ret (results_none rfl _ _ _) rfl ?_
        exact ⟨⟨_, rfl⟩, .inr ⟨_, hJx3⟩⟩
theorem back_seq (n b n0 g off cap : Nat) (L : List Nat) (hm : L.length ≤ 8) (hgn : g < n0) :
    SeqB Fence.wide n Tryz.prog 58 #[.pointer (some ⟨b, 0, none⟩)] pairVal b (Keep n0 b)
      (fun W => Boxed W b 25 (.slice (some ⟨g, off, none⟩) L.length cap) ∧ ∀ j, j < L.length → W.cell? ⟨g, off + j, none⟩ = some (.int .u8 (nthB L j : Int))) (fun xs => xs = bk L L.length) (fun xs => xs <+: bk L L.length) :=
  fun l J Jx W hP _ hY h0 => back1_any n b n0 g off cap L hm l J Jx W hP.1 hP.2 hgn hY h0

/-- The number of some bytes, the lowest first. -/
def ofLE : List Nat → Nat
  | [] => 0
  | b :: l => b + 256 * ofLE l
/-- The number that has come behind some pairs of Backward. -/
def backNum (ps : List (Nat × Nat)) : Nat := ps.foldl (fun u p => 256 * u + p.2) 0
theorem backNum_snoc (ps : List (Nat × Nat)) (p : Nat × Nat) : backNum (ps ++ [p]) = 256 * backNum ps + p.2 := by simp [backNum]
theorem backNum_bk (L : List Nat) : ∀ k, k ≤ L.length → ∀ pre, pre ++ bk L k = bk L L.length → backNum pre = ofLE (L.drop k)
  | k, hk, pre, h => by
    obtain ⟨d, hd⟩ : ∃ d, L.length = k + d := ⟨L.length - k, by omega⟩
    induction d generalizing k pre with
    | zero =>
      have e : k = L.length := by omega
      subst e
      have hp : pre = [] := List.append_left_eq_self.1 h
      subst hp
      simp [backNum, ofLE]
    | succ d ih =>
      have hstep : bk L (k + 1) = (k, nthB L k) :: bk L k := rfl
      have hlt : k < L.length := by omega
      rcases List.eq_nil_or_concat pre with rfl | ⟨i, x, rfl⟩
      · exfalso
        have h2 := congrArg List.length h
        have hl : ∀ m, (bk L m).length = m := by intro m; induction m with | zero => rfl | succ m ih => simp [bk, ih]
        rw [List.nil_append, hl, hl] at h2
        omega
      · rw [List.concat_eq_append] at h ⊢
        have hi : i ++ bk L (k + 1) = bk L L.length := by
          have hsplit : ∀ m, k + 1 ≤ m → ∃ q, bk L m = q ++ bk L (k + 1) ∧ q.length = m - (k + 1) := by
            intro m hm
            induction m with
            | zero => omega
            | succ m ihm =>
              by_cases e : k + 1 = m + 1
              · exact ⟨[], by rw [← e]; rfl, by simp; omega⟩
              · obtain ⟨q, hq, hql⟩ := ihm (by omega)
                exact ⟨(m, nthB L m) :: q, by simp [bk, hq], by simp [hql]; omega⟩
          obtain ⟨q, hq, hql⟩ := hsplit L.length (by omega)
          have hl : ∀ m, (bk L m).length = m := by intro m; induction m with | zero => rfl | succ m ih => simp [bk, ih]
          have h2 := congrArg List.length h
          rw [List.length_append, List.length_append, hl, hl] at h2
          rw [hq, hstep, List.append_assoc] at h
          have hql2 : i.length = q.length := by rw [hql]; simp at h2; omega
          have := List.append_inj h hql2
          rw [hq, this.1]
        have hi2 := ih (k + 1) (by omega) i hi (by omega)
        have hx : x = (k, nthB L k) := by
          rw [← hi, hstep] at h
          have := List.append_inj (by simpa using h : i ++ (x :: bk L k) = i ++ ((k, nthB L k) :: bk L k)) rfl
          simpa using this.2
        rw [backNum_snoc, hi2, hx]
        have hd2 : L.drop k = nthB L k :: L.drop (k + 1) := by
          rw [List.drop_eq_getElem_cons hlt]
          simp [nthB, hlt]
        rw [hd2, ofLE]
        omega
theorem ofLE_lt : ∀ (l : List Nat), (∀ x ∈ l, x < 256) → ofLE l < 256 ^ l.length
  | [], _ => by simp [ofLE]
  | b :: l, h => by
    have ih := ofLE_lt l (fun x hx => h x (List.mem_cons_of_mem _ hx))
    have hb := h b (by simp)
    rw [ofLE, List.length_cons, Nat.pow_succ]
    omega
theorem or_byte (u c : Nat) (hu : u < 72057594037927936) (hc : c < 256) : bits .or .u64 ((u : Int) * 256) (c : Int) = ((256 * u + c : Nat) : Int) := by
  have e : ((u : Int) * 256) = ((u * 256 : Nat) : Int) := by omega
  rw [e, u64_or_nat _ _ (by omega) (by omega)]
  have := Nat.shiftLeft_add_eq_or_of_lt (show c < 2 ^ 8 from hc) u
  rw [Nat.shiftLeft_eq] at this
  rw [show (256 : Nat) = 2 ^ 8 from rfl, ← this]
  omega
theorem bk_length (L : List Nat) : ∀ m, (bk L m).length = m
  | 0 => rfl
  | m + 1 => by simp [bk, bk_length L m]
theorem bk_suffix (L : List Nat) : ∀ (m : Nat) (q r : List (Nat × Nat)), bk L m = q ++ r → r = bk L r.length
  | m, [], r, h => by
    rw [List.nil_append] at h
    rw [← h, bk_length]
  | 0, y :: q, r, h => by simp [bk] at h
  | m + 1, y :: q, r, h => by
    simp only [bk, List.cons_append, List.cons.injEq] at h
    exact bk_suffix L m q r h.2
theorem bk_prefix {L : List Nat} {pre : List (Nat × Nat)} {x : Nat × Nat} (h : pre ++ [x] <+: bk L L.length) : ∃ k, k < L.length ∧ x = (k, nthB L k) ∧ backNum pre = ofLE (L.drop (k + 1)) := by
  obtain ⟨r, hr⟩ := h
  have h1 : bk L L.length = pre ++ (x :: r) := by rw [← hr]; simp
  have h2 := bk_suffix L _ _ _ h1
  rw [List.length_cons] at h2
  have hl := congrArg List.length h1
  rw [bk_length, List.length_append, List.length_cons] at hl
  refine ⟨r.length, by omega, ?_, ?_⟩
  · simp only [bk, List.cons.injEq] at h2
    exact h2.1
  · exact backNum_bk L (r.length + 1) (by omega) pre (by rw [← h2, h1])

set_option maxRecDepth 100000 in
set_option maxHeartbeats 2000000 in
theorem from_in (g off cap : Nat) (L : List Nat) (w : World) (hm : L.length ≤ 8) (h256 : ∀ x ∈ L, x < 256) (hgl : g < w.heap.size)
    (hcell : ∀ j, j < L.length → w.cell? ⟨g, off + j, none⟩ = some (.int .u8 (nthB L j : Int))) :
    CallsIn Fence.wide 3 Tryz.prog 25 #[.slice (some ⟨g, off, none⟩) L.length cap] w fun e w' => e = .returned (.tuple #[.int .u64 (ofLE L : Int), .bool true]) ∧ Below w.heap.size w w' := by
  have hm1 : ¬ (8 : Int) < (L.length : Int) := by omega
  refine callsIn_of_wp_marks Tryz.func25 rfl trivial ?_ rfl
  simp only [Tryz.ntmps25, List.size_toArray, List.length_cons, List.length_nil, Nat.reduceAdd, Nat.reduceSub, Array.replicate_succ, Array.replicate_zero, List.push_toArray, List.append_toArray, List.nil_append, List.cons_append]
  have he := fun W => backward_any (some ⟨g, off, none⟩) L.length cap W
  have HE := Lib.hid he
  clear he
  gi_wp2_with (gi_at_call 43; refine (callsIn_wide.2 (HE.out _)).mono ?_; rintro e w' ⟨rfl, rfl⟩)
  have bO := Boxed.new w 22 (.int .u64 0)
  have bS := Boxed.new (w.alloc (.cells #[.int .u64 0] 22)) 25 (.slice (some ⟨g, off, none⟩) L.length cap)
  rw [World.size_alloc] at bS
  have hB0 : Below w.heap.size w ((w.alloc (.cells #[.int .u64 0] 22)).alloc (.cells #[.slice (some ⟨g, off, none⟩) L.length cap] 25)) := below2 w _ _
  refine wpIn_rangeB rfl (by omega) (gf := 58) (lb := #[.pointer (some ⟨w.heap.size + 1, 0, none⟩)]) rfl trivial (enters_of Tryz.func58 (by kernel_rfl) rfl)
    (n0 := w.heap.size) (back_seq 2 (w.heap.size + 1) w.heap.size g off cap L hm hgl) (by simp; omega) (by simp) (by omega) (fun h k => h.trans k) (keep_put (by simp; omega) (by simp))
    (fun o1 o2 => by
      have hk := keep_two (n0 := w.heap.size) (b := w.heap.size + 1) (w := (w.alloc (.cells #[.int .u64 0] 22)).alloc (.cells #[.slice (some ⟨g, off, none⟩) L.length cap] 25)) (by simp; omega) (by simp) o1 o2
      exact ⟨hk.at_.trans bS, fun j hj => (hk.below.cell (p := ⟨g, off + j, none⟩) hgl).trans ((hB0.cell (p := ⟨g, off + j, none⟩) hgl).trans (hcell j hj))⟩) (fun _ => rfl)
    (fun pre W => Boxed W w.heap.size 22 (.int .u64 (backNum pre : Int)) ∧ Below w.heap.size w W)
    (fun _ _ _ => False) (Abide.conj ?abide (abide_below (Nat.le_refl _))) (fun _ => abide_false)
    ⟨bO.alloc _, hB0⟩
    (fun x => { tmps := #[.slice (some ⟨g, off, none⟩) L.length cap, undef, .int .u64 0, .bool false, .pointer (some ⟨w.heap.size, 0, none⟩), undef, .int .u8 (x.2 : Int), .slice (some ⟨g, off, none⟩) L.length cap, .int .i64 (L.length : Int), .bool false, .slice (some ⟨g, off, none⟩) L.length cap, .func (.func 58) #[] #[.pointer (some ⟨w.heap.size + 1, 0, none⟩)], .int .i64 (x.1 : Int), .int .u8 (x.2 : Int), undef, undef, undef, undef, undef, undef], defers := [] }) ?assign ?body ?done ?stop
  case abide =>
    rintro pre X Y row hv hg' hrow
    exact boxed_abide (β := Unit) (by omega) (fun _ => _) () X Y row hv hg' hrow
  case assign =>
    intro l x W K hK
    dsimp only [pairVal]
    gi_wp2
    exact hK
  case body =>
    rintro l pre x W hsz ⟨hv, hB⟩ hp
    obtain ⟨k, hk, rfl, hnum⟩ := bk_prefix hp
    have hc := hv.cell
    have hf := hv.frozen
    have hu : backNum pre < 72057594037927936 := by
      rw [hnum]
      have h1 := ofLE_lt (L.drop (k + 1)) (fun x hx => h256 x (List.mem_of_mem_drop hx))
      rw [List.length_drop] at h1
      exact Nat.lt_of_lt_of_le h1 (by
        have : 256 ^ (L.length - (k + 1)) ≤ 256 ^ 7 := Nat.pow_le_pow_right (by omega) (by omega)
        exact this)
    have hy : nthB L k < 256 := by
      unfold nthB
      rw [List.getElem?_eq_getElem hk]
      exact h256 _ (List.getElem_mem hk)
    have hor := or_byte (backNum pre) (nthB L k) hu hy
    have hsn := backNum_snoc pre (k, nthB L k)
    dsimp only at hsn ⊢
    obtain ⟨y, hyv⟩ : ∃ y, nthB L k = y := ⟨_, rfl⟩
    obtain ⟨u, huv⟩ : ∃ u, backNum pre = u := ⟨_, rfl⟩
    rw [hyv] at hor hy hsn ⊢
    rw [huv] at hor hu hc hsn hv
    have HOR := Lib.hid hor
    have HSN := Lib.hid hsn
    clear hor hsn hyv huv hnum hp
    gi_wp2
    have hset := hv.set (.int .u64 (bits BinOp.or .u64 ((u : Int) * 256) (y : Int)))
    refine ⟨KeepsOthers.setCell _ _ _, (Keep.refl _ _ _).setCell (p := ⟨w.heap.size, 0, none⟩) (Nat.le_refl _) (by simp) _, ?_, hB.setCell (p := ⟨w.heap.size, 0, none⟩) (Nat.le_refl _) _⟩
    rw [HSN.out, ← HOR.out]
    exact hset
  case done =>
    rintro D ys W hD rfl ⟨hv, hB⟩ hK
    have hc := hv.cell
    have hfin : Hid (backNum (bk L L.length) = ofLE L) := Lib.hid (by
      have := backNum_bk L 0 (by omega) (bk L L.length) (by simp [bk])
      simpa using this)
    rw [hfin.out] at hc
    gi_wp2
    refine ⟨by simp, .inl ⟨_, _, rfl, run_takeDeferred hK, ?_⟩⟩
    exact ⟨_, results_tmp2 rfl _ _ _, rfl, hB.trans ((Below.refl w.heap.size W).grown (grownBy_putObj' W D _) hB.size (fun k e => by cases e; simp at hD; omega))⟩
  case stop =>
    rintro D c pre W _ h _
    exact h.elim

/-- **word.From** at bytes that lie somewhere. -/
theorem wfrom_any (g off cap : Nat) (L : List Nat) (w : World) (hm : L.length ≤ 8) (h256 : ∀ x ∈ L, x < 256) (hgl : g < w.heap.size)
    (hcell : ∀ j, j < L.length → w.cell? ⟨g, off + j, none⟩ = some (.int .u8 (nthB L j : Int))) :
    Calls Tryz.prog 25 #[.slice (some ⟨g, off, none⟩) L.length cap] w fun e w' => e = .returned (.tuple #[.int .u64 (ofLE L : Int), .bool true]) ∧ Below w.heap.size w w' :=
  callsIn_wide.1 (from_in g off cap L w hm h256 hgl hcell)

theorem lab_results2 {fn : Func} {p u : Tmp} (h : fn.results = #[.cell p 24, .tmp u]) (tmps : Array Value) (w : World) (g : Nat) (x y : Value) (t : TypeId) (fr : Nat × Nat)
    (hp : tmps.getD p undef = .pointer (some ⟨g, 0, none⟩)) (hg : w.heap[g]? = some (.cells #[x, y] t fr)) : (results fn tmps).run Tryz.prog w = .ok (.tuple #[.agg #[x, y], tmps.getD u undef]) w := by
  rw [results_cell_tmp h, hp]
  simp [asAddr, run_loadVar_row w g t 24 _ fr _ hg Tryz.underlying24 rfl info_label, Result.andThen]
theorem res45 : Tryz.f5.results = #[.cell 2 24, .tmp 3] := by kernel_rfl

set_option maxRecDepth 100000 in
theorem lfrom_ok (g off cap : Nat) (L1 L2 : List Nat) (w : World) (h1 : L1.length = 8) (h2 : L2.length = 8) (k1 : ∀ x ∈ L1, x < 256) (k2 : ∀ x ∈ L2, x < 256) (hgl : g < w.heap.size) (hcap : 16 ≤ cap)
    (hcell : ∀ j, j < 16 → w.cell? ⟨g, off + j, none⟩ = some (.int .u8 (nthB (L1 ++ L2) j : Int))) :
    Calls Tryz.prog 5 #[.slice (some ⟨g, off, none⟩) 16 cap] w fun e w' =>
      e = .returned (.tuple #[.agg #[.int .u64 (ofLE L1 : Int), .int .u64 (ofLE L2 : Int)], .bool true]) ∧ Below w.heap.size w w' := by
  have hc1 : ∀ j, j < L1.length → w.cell? ⟨g, off + j, none⟩ = some (.int .u8 (nthB L1 j : Int)) := fun j hj => by
    rw [hcell j (by omega)]
    unfold nthB
    rw [List.getElem?_append_left hj]
  have hc2 : ∀ j, j < L2.length → w.cell? ⟨g, off + 8 + j, none⟩ = some (.int .u8 (nthB L2 j : Int)) := fun j hj => by
    have := hcell (8 + j) (by omega)
    rw [← Nat.add_assoc] at this
    rw [this]
    unfold nthB
    rw [List.getElem?_append_right (by omega), show 8 + j - L1.length = j by omega]
  have hF1 := fun (W : World) (hb : Below w.heap.size w W) (c : Nat) => wfrom_any g off c L1 W (by omega) k1 (Nat.lt_of_lt_of_le hgl hb.size) (fun j hj => (hb.cell (p := ⟨g, off + j, none⟩) hgl).trans (hc1 j hj))
  have hF2 := fun (W : World) (hb : Below w.heap.size w W) (c : Nat) => wfrom_any g (off + 8) c L2 W (by omega) k2 (Nat.lt_of_lt_of_le hgl hb.size) (fun j hj => (hb.cell (p := ⟨g, off + 8 + j, none⟩) hgl).trans (hc2 j hj))
  rw [h1] at hF1
  rw [h2] at hF2
  obtain ⟨n1, hn1⟩ : ∃ n, ofLE L1 = n := ⟨_, rfl⟩
  obtain ⟨n2, hn2⟩ : ∃ n, ofLE L2 = n := ⟨_, rfl⟩
  simp only [hn1] at hF1
  simp only [hn2] at hF2
  rw [hn1, hn2]
  have F1 := Lib.hid hF1
  have F2 := Lib.hid hF2
  clear hF1 hF2 hc1 hc2 hcell hn1 hn2 k1 k2 h1 h2
  go_enter Tryz.func5, Tryz.ntmps5
  go_wp2_with fail
  refine (F1.out _ (below1 w _) cap).mono ?_
  rintro e w1 ⟨rfl, hB1⟩
  have hBw1 := (below1 w (.cells #[.int .u64 0, .int .u64 0] 24)).trans (hB1.mono (below1 w _).size)
  have hx1 : w1.heap[w.heap.size]? = some (.cells #[.int .u64 0, .int .u64 0] 24) := (hB1.block _ (by simp)).trans (World.alloc_heap_new w _)
  clear hB1
  go_wp2_with fail
  refine (F2.out w1 hBw1 (cap - 8)).mono ?_
  rintro e w2 ⟨rfl, hB2⟩
  have hBw2 := hBw1.trans (hB2.mono hBw1.size)
  have hx2 : w2.heap[w.heap.size]? = some (.cells #[.int .u64 0, .int .u64 0] 24) := (hB2.block _ (Array.getElem?_eq_some_iff.1 hx1).1).trans hx1
  clear hB2 hx1 F1 F2 hBw1
  have c0 : w2.cell? ⟨w.heap.size, 0, none⟩ = some (.int .u64 0) := cell_of_row _ _ _ _ _ _ hx2
  have f0 := frozen_of_row w2 w.heap.size 0 _ _ hx2
  have f1 := frozen_of_row w2 w.heap.size 1 _ _ hx2
  have hx3 := heap_setCell_same w2 w.heap.size 0 _ _ (.int .u64 (n1 : Int)) hx2
  have c1 : (w2.setCell ⟨w.heap.size, 0, none⟩ (.int .u64 (n1 : Int))).cell? ⟨w.heap.size, 1, none⟩ = some (.int .u64 0) := cell_of_row _ _ _ _ _ _ hx3
  have hx4 := heap_setCell_same _ w.heap.size 1 _ _ (.int .u64 (n2 : Int)) hx3
  have HX := Lib.hid hx4
  have hB5 := (hBw2.setCell (p := ⟨w.heap.size, 0, none⟩) (Nat.le_refl _) (.int .u64 (n1 : Int))).setCell (p := ⟨w.heap.size, 1, none⟩) (Nat.le_refl _) (.int .u64 (n2 : Int))
  have HB := Lib.hid hB5
  clear hx2 hx3 hx4 hB5
  go_wp2
  exact bodyPost_ret (lab_results2 res45 _ _ _ _ _ _ _ rfl HX.out) rfl ⟨rfl, HB.out⟩
end Go.Proofs.YtegjlgdbipfpaaaGreatDoor
