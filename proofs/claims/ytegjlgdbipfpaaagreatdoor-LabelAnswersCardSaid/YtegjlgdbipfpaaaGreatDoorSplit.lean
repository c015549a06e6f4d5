/-
  strings.SplitSeq at a comma: its iterator's contract.
-/
import Derived.Test.YtegjlgdbipfpaaaGreatDoorStretch
namespace Go.Proofs.YtegjlgdbipfpaaaGreatDoor
open Go Go.RowKit Go.Shelf
attribute [local go_sem] Oper.semAt_some wide_fn wide_depth

/-- A text's parts, between its commas. -/
def parts : List UInt8 → List (List UInt8)
  | [] => [[]]
  | c :: l => if c = 44 then [] :: parts l else
    match parts l with
    | p :: r => (c :: p) :: r
    | [] => [[c]]

theorem parts_none (l : List UInt8) (h : 44 ∉ l) : parts l = [l] := by
  induction l with
  | nil => rfl
  | cons c l ih =>
    simp only [List.mem_cons, not_or] at h
    simp [parts, ih h.2, Ne.symm h.1]
theorem parts_comma (a b : List UInt8) (h : 44 ∉ a) : parts (a ++ 44 :: b) = a :: parts b := by
  induction a with
  | nil => simp [parts]
  | cons c a ih =>
    simp only [List.mem_cons, not_or] at h
    simp [parts, ih h.2, Ne.symm h.1]

/-- What a round keeps: all below n0, and the iterator's three blocks. -/
def KeepS (n0 b : Nat) (A B : World) : Prop := Keep n0 b A B ∧ Keep n0 (b + 1) A B ∧ Keep n0 (b + 2) A B
theorem KeepS.trans {n0 b : Nat} {A B C : World} (h : KeepS n0 b A B) (k : KeepS n0 b B C) : KeepS n0 b A C := ⟨h.1.trans k.1, h.2.1.trans k.2.1, h.2.2.trans k.2.2⟩
theorem KeepS.refl (n0 b : Nat) (A : World) : KeepS n0 b A A := ⟨Keep.refl _ _ _, Keep.refl _ _ _, Keep.refl _ _ _⟩

def textVal (l : List UInt8) : Array Value := #[Str l]
def sizeIn (b : Nat) (W : World) : Nat := match W.cell? ⟨b, 0, none⟩ with | some (.string s) => s.size | _ => 0
theorem sizeIn_eq {b : Nat} {W : World} {l : List UInt8} (h : Boxed W b 9 (Str l)) : sizeIn b W = l.length := by
  unfold sizeIn
  rw [h.cell]
  simp [ByteArray.size]

theorem index_one (s : ByteArray) (c : UInt8) (w : World) : Calls Tryz.prog 74 #[.string s, .string ⟨#[c]⟩] w fun e w' => e = .returned (.int .i64 (Lib.indexByte s.data.toList c)) ∧ w = w' :=
  (Tryz.strings_Index_one s c w).mono fun _ _ ⟨h1, h2⟩ => ⟨h1, h2.symm⟩

theorem idx_none (l : List UInt8) (h : (44 : UInt8) ∉ l) : Lib.indexByte l 44 = -1 := by
  induction l with
  | nil => rfl
  | cons c l ih =>
    simp only [List.mem_cons, not_or] at h
    simp [Lib.indexByte, ih h.2, Ne.symm h.1]
theorem idx_comma (a b : List UInt8) (h : (44 : UInt8) ∉ a) : Lib.indexByte (a ++ 44 :: b) 44 = a.length := by
  induction a with
  | nil => simp [Lib.indexByte]
  | cons c a ih =>
    simp only [List.mem_cons, not_or] at h
    have : ¬ ((a.length : Int) = -1) := by omega
    simp [Lib.indexByte, ih h.2, Ne.symm h.1, this]
theorem split_at {l : List UInt8} (h : (44 : UInt8) ∈ l) : ∃ a b, l = a ++ 44 :: b ∧ (44 : UInt8) ∉ a := by
  induction l with
  | nil => simp at h
  | cons c l ih =>
    by_cases e : c = 44
    · exact ⟨[], l, by simp [e], by simp⟩
    · obtain ⟨a, b, rfl, ha⟩ := ih (by simpa [Ne.symm e] using h)
      exact ⟨c :: a, b, by simp, by simp [ha, Ne.symm e]⟩

theorem str_take (a b : List UInt8) : Value.string ((ByteArray.mk (a ++ b).toArray).extract 0 a.length) = Str a := by
  congr 1
  apply ByteArray.ext
  apply Array.ext'
  rw [Lib.extract_data]
  simp
theorem str_drop (a : List UInt8) (c : UInt8) (b : List UInt8) (n m : Nat) (hn : n = a.length + 1) (hm : m = (a ++ c :: b).length) : Value.string ((ByteArray.mk (a ++ c :: b).toArray).extract n m) = Str b := by
  subst hn hm
  congr 1
  apply ByteArray.ext
  apply Array.ext'
  rw [Lib.extract_data]
  simp
  exact List.take_of_length_le (by omega)

set_option maxRecDepth 100000 in
set_option maxHeartbeats 2000000 in
theorem split1_any (n b n0 : Nat) (t : List UInt8) (ht : t.length ≤ 4294967295) (l : Nat) (J Jx : List (List UInt8) → World → Prop) (W : World)
    (hb1 : Boxed W b 9 (Str t)) (hb2 : Boxed W (b + 1) 9 (Str [44])) (hb3 : Boxed W (b + 2) 3 (.int .i64 0))
    (hJ : ∀ pre A A', J pre A → A.grownBy A' (some b) → J pre A')
    (hY : ∀ pre x W1, J pre W1 → pre ++ [x] <+: parts t → YieldAt Fence.wide (n - 1) Tryz.prog l (textVal x) W1 fun e W' =>
      (e = .returned (.bool true) ∧ J (pre ++ [x]) W' ∧ KeepS n0 b W1 W') ∨ (e = .returned (.bool false) ∧ Jx (pre ++ [x]) W'))
    (h0 : J [] W) :
    CallsIn Fence.wide n Tryz.prog 72 (#[.func (.yield l) #[] #[]] ++ #[.pointer (some ⟨b + 1, 0, none⟩), .pointer (some ⟨b, 0, none⟩), .pointer (some ⟨b + 2, 0, none⟩)]) W fun e W' => (∃ v, e = .returned v) ∧
      ((∃ xs, xs = parts t ∧ J xs W') ∨ (∃ pre, Jx pre W')) := by
  have hc2 := hb2.cell
  refine callsIn_of_wp Tryz.func72 rfl trivial ?_ rfl
  simp only [Tryz.ntmps72, List.size_toArray, List.length_cons, List.length_nil, Nat.reduceAdd, Nat.reduceSub, Array.replicate_succ, Array.replicate_zero, List.push_toArray, List.append_toArray, List.nil_append, List.cons_append]
  gi_wp2
  gi_loopw [7] (fun _ wr => ∃ (pre : List (List UInt8)) (r : List UInt8), parts t = pre ++ parts r ∧ r.length ≤ t.length ∧ Boxed wr b 9 (Str r) ∧ Boxed wr (b + 1) 9 (Str [44]) ∧ Boxed wr (b + 2) 3 (.int .i64 0) ∧ J pre wr) (fun _ wr => sizeIn b wr)
  case atStart => exact ⟨[], t, rfl, Nat.le_refl _, hb1, hb2, hb3, h0⟩
  case round =>
    obtain ⟨pre, r, hx, hrl, hw1, hw2, hw3, hJs⟩ := hrel
    have hd1 := hw1.cell
    have hd2 := hw2.cell
    have hd3 := hw3.cell
    have hf1 := hw1.frozen
    clear hc2
    by_cases h44 : (44 : UInt8) ∈ r
    · obtain ⟨a, r2, rfl, ha⟩ := split_at h44
      have hi := index_one ⟨(a ++ 44 :: r2).toArray⟩ 44 wr
      rw [idx_comma a r2 ha] at hi
      rw [parts_comma a r2 ha] at hx
      obtain ⟨fn, tmps, assign, body, hy, hR⟩ := hY pre a wr hJs (by rw [hx]; exact ⟨parts r2, by simp⟩)
      have HI := Lib.hid hi
      have HX := Lib.hid hx
      clear hi hx
      have hal : a.length ≤ (a ++ 44 :: r2).length := by simp
      unfold textVal at hy
      rw [← str_take a (44 :: r2)] at hy
      gi_wp2_with (gi_at_call 74; refine (callsIn_wide.2 HI.out).mono ?_; rintro e w' ⟨rfl, rfl⟩)
      refine hR.mono ?_
      rintro e W3 (⟨rfl, hJ3, hk3⟩ | ⟨rfl, hJx3⟩)
      · have hv1 : Boxed W3 b 9 (Str (a ++ 44 :: r2)) := hk3.1.at_.trans hw1
        have hv2 : Boxed W3 (b + 1) 9 (Str [44]) := hk3.2.1.at_.trans hw2
        have hv3 : Boxed W3 (b + 2) 3 (.int .i64 0) := hk3.2.2.at_.trans hw3
        have hg1 := hv1.cell
        have hg2 := hv2.cell
        have hgf := hv1.frozen
        clear hd1 hd2 hd3 hf1 hk3
        have e4 := str_drop a 44 r2 (a.length + 1) (a.length + (r2.length + 1)) rfl (by simp)
        have H4 := Lib.hid e4
        clear e4
        gi_wp2
        rw [H4.out]
        have hv4 := hv1.set (Str r2)
        have hv5 := hv2.kept (grownBy_setCell' W3 b (Str r2)) (by simp)
        have hv6 := hv3.kept (grownBy_setCell' W3 b (Str r2)) (by simp)
        have hrl2 : r2.length ≤ t.length := by simp at hrl; omega
        have hrl3 : r2.length < (a ++ 44 :: r2).length := by simp; omega
        have hmeas : sizeIn b (W3.setCell ⟨b, 0, none⟩ (Str r2)) < sizeIn b wr := by rw [sizeIn_eq hv4, sizeIn_eq hw1]; exact hrl3
        go_roundw
        case rel => exact ⟨pre ++ [a], r2, by rw [HX.out]; simp, hrl2, hv4, hv5, hv6, hJ _ _ _ hJ3 (grownBy_setCell' W3 b _)⟩
        case measure => exact hmeas
      · clear hd1 hd2 hd3 hf1
        gi_wp2
        refine bodyPost_ret (results_none rfl _ _ _) rfl ?_
        exact ⟨⟨_, rfl⟩, .inr ⟨_, hJx3⟩⟩
    · have hi := index_one ⟨r.toArray⟩ 44 wr
      rw [idx_none r h44] at hi
      rw [parts_none r h44] at hx
      obtain ⟨fn, tmps, assign, body, hy, hR⟩ := hY pre r wr hJs (by rw [hx]; exact ⟨[], by simp⟩)
      have HI := Lib.hid hi
      have HX := Lib.hid hx
      clear hi hx
      unfold textVal at hy
      gi_wp2_with (gi_at_call 74; refine (callsIn_wide.2 HI.out).mono ?_; rintro e w' ⟨rfl, rfl⟩)
      refine hR.mono ?_
      rintro e W3 (⟨rfl, hJ3, hk3⟩ | ⟨rfl, hJx3⟩)
      · clear hd1 hd2 hd3 hf1
        gi_wp2
        go_end0
        exact ⟨⟨_, rfl⟩, .inl ⟨_, HX.out.symm, hJ3⟩⟩
      · clear hd1 hd2 hd3 hf1
        gi_wp2
        go_end0
        exact ⟨⟨_, rfl⟩, .inr ⟨_, hJx3⟩⟩

theorem split_seq (n b n0 : Nat) (t : List UInt8) (ht : t.length ≤ 4294967295) :
    SeqB Fence.wide n Tryz.prog 72 #[.pointer (some ⟨b + 1, 0, none⟩), .pointer (some ⟨b, 0, none⟩), .pointer (some ⟨b + 2, 0, none⟩)] textVal b (KeepS n0 b)
      (fun W => Boxed W b 9 (Str t) ∧ Boxed W (b + 1) 9 (Str [44]) ∧ Boxed W (b + 2) 3 (.int .i64 0)) (fun xs => xs = parts t) (fun xs => xs <+: parts t) :=
  fun l J Jx W hP hJ hY h0 => split1_any n b n0 t ht l J Jx W hP.1 hP.2.1 hP.2.2 hJ hY h0

theorem splitSeq_any (t : List UInt8) (w : World) :
    Calls Tryz.prog 60 #[Str t, Str [44], .int .i64 0] w fun e w' =>
      e = .returned (.func (.func 72) #[] #[.pointer (some ⟨w.heap.size + 1, 0, none⟩), .pointer (some ⟨w.heap.size, 0, none⟩), .pointer (some ⟨w.heap.size + 2, 0, none⟩)]) ∧
        ((w.alloc (.cells #[Str t] 9)).alloc (.cells #[Str [44]] 9)).alloc (.cells #[.int .i64 0] 3) = w' := by
  go_enter Tryz.func60, Tryz.ntmps60
  go_wp2
  go_ret
  exact ⟨rfl, rfl⟩
theorem SplitSeq_any (t : List UInt8) (w : World) :
    Calls Tryz.prog 45 #[Str t, Str [44]] w fun e w' =>
      e = .returned (.func (.func 72) #[] #[.pointer (some ⟨w.heap.size + 1, 0, none⟩), .pointer (some ⟨w.heap.size, 0, none⟩), .pointer (some ⟨w.heap.size + 2, 0, none⟩)]) ∧
        ((w.alloc (.cells #[Str t] 9)).alloc (.cells #[Str [44]] 9)).alloc (.cells #[.int .i64 0] 3) = w' := by
  have H := Lib.hid (splitSeq_any t w)
  go_enter Tryz.func45, Tryz.ntmps45
  go_wp2_with fail
  refine H.out.mono ?_
  rintro e w' ⟨rfl, rfl⟩
  go_wp2
  go_ret
  exact ⟨rfl, rfl⟩
end Go.Proofs.YtegjlgdbipfpaaaGreatDoor
