/-
  set.each, and its closure's contract.
-/
import Derived.Test.YtegjlgdbipfpaaaGreatDoorSetB
import Derived.Test.YtegjlgdbipfpaaaGreatDoorRange
import Derived.Shelf.Abstract
import Derived.WalkKit
import Derived.OwnWalkIn
import Derived.TacticsInMore
import Derived.LoopNIn
import Derived.LoopIn
import Derived.Maps.AppendAt
namespace Go.Proofs.YtegjlgdbipfpaaaGreatDoor
open Go Go.RowKit Go.Shelf
theorem wide_fn (k : Nat) : Fence.wide.fn k = True := rfl
theorem wide_depth : Fence.wide.depth = none := rfl
attribute [local go_sem] Oper.semAt_some wide_fn wide_depth

def gTop : Nat := max (max 3 4) (max 5 0) + 1
theorem Laid.keep {n0 : Nat} {A B : World} (h : Laid A) (hb : Below n0 A B) (hn : gTop ≤ n0) : Laid B := by
  unfold gTop at hn
  obtain ⟨a, ⟨s, s', hs⟩, ⟨r, r', hr⟩, ⟨m, hm⟩⟩ := h
  exact ⟨fun j hj => (hb.cell (by simp; omega)).trans (a j hj), ⟨s, s', (hb.cell (by simp; omega)).trans hs⟩, ⟨r, r', (hb.cell (by simp; omega)).trans hr⟩, ⟨m, (hb.cell (by simp; omega)).trans hm⟩⟩

/-- How many categories are still in the iterator's variable: read off the world. -/
def leftIn (b : Nat) (W : World) : Nat := match W.cell? ⟨b, 0, none⟩ with | some (.int _ q) => (cats (BitVec.ofInt 64 q)).length | _ => 0
theorem leftIn_eq {b : Nat} {W : World} {s : BitVec 64} (h : Boxed W b 22 (U s)) : leftIn b W = (cats s).length := by
  unfold leftIn
  rw [h.cell]
  have e : BitVec.ofInt 64 (s.toNat : Int) = s := by rw [BitVec.ofInt_natCast]; simp
  simp only [e]

theorem and_dec (cur : BitVec 64) (h : ¬ cur.toNat = 0) : bits BinOp.and .u64 (cur.toNat : Int) ((cur.toNat : Int) - 1) = ((rest cur).toNat : Int) := by
  have e : ((cur.toNat : Int) - 1) = ((cur - 1#64).toNat : Int) := by
    rw [BitVec.toNat_sub, show (1#64).toNat = 1 from rfl]
    have := cur.isLt
    omega
  rw [e]; exact and_bv cur (cur - 1#64)

def catVal (c : Nat) : Array Value := #[.int .i64 (c : Int)]

set_option maxRecDepth 100000 in
set_option maxHeartbeats 1000000 in
theorem each1_any (n b n0 : Nat) (s : BitVec 64) (hn0 : gTop ≤ n0) (l : Nat) (J Jx : List Nat → World → Prop) (W : World)
    (hbx : Boxed W b 22 (U s)) (hl : Laid W)
    (hJ : ∀ pre A A', J pre A → A.grownBy A' (some b) → J pre A')
    (hY : ∀ pre x W1, J pre W1 → pre ++ [x] <+: cats s → YieldAt Fence.wide (n - 1) Tryz.prog l (catVal x) W1 fun e W' =>
      (e = .returned (.bool true) ∧ J (pre ++ [x]) W' ∧ Keep n0 b W1 W') ∨ (e = .returned (.bool false) ∧ Jx (pre ++ [x]) W'))
    (h0 : J [] W) (hn0b : n0 ≤ b) :
    CallsIn Fence.wide n Tryz.prog 77 (#[.func (.yield l) #[] #[]] ++ #[.pointer (some ⟨b, 0, none⟩)]) W fun e W' => (∃ v, e = .returned v) ∧
      ((∃ xs, xs = cats s ∧ J xs W') ∨ (∃ pre, Jx pre W')) := by
  refine callsIn_of_wp Tryz.func77 rfl trivial ?_ rfl
  simp only [Tryz.ntmps77, List.size_toArray, List.length_cons, List.length_nil, Nat.reduceAdd, Nat.reduceSub, Array.replicate_succ, Array.replicate_zero, List.push_toArray, List.append_toArray, List.nil_append, List.cons_append]
  gi_wp2
  gi_loopw [3] (fun _ wr => ∃ (pre : List Nat) (cur : BitVec 64), cats s = pre ++ cats cur ∧ Boxed wr b 22 (U cur) ∧ Laid wr ∧ J pre wr) (fun _ wr => leftIn b wr)
  case atStart => exact ⟨[], s, rfl, hbx, hl, h0⟩
  case round =>
    obtain ⟨pre, cur, hx, hbc, hlr, hJs⟩ := hrel
    by_cases hz : cur = 0#64
    · subst hz
      have hc := hbc.cell
      have hx' : pre = cats s := by rw [hx, cats_zero, List.append_nil]
      have e0 : ((0#64).toNat : Int) = 0 := rfl
      unfold U at hc
      rw [e0] at hc
      have HX := Lib.hid hx'
      have HJ := Lib.hid hJs
      clear hx hx' hJs e0
      gi_wp2
      go_end0
      exact ⟨⟨_, rfl⟩, .inl ⟨pre, HX.out, HJ.out⟩⟩
    · have hc := hbc.cell
      have hf := hbc.frozen
      have hcons := cats_cons hz
      rw [hcons] at hx
      have hz0 : ¬ cur.toNat = 0 := fun e => hz (BitVec.eq_of_toNat_eq (by simpa using e))
      obtain ⟨fn, tmps, assign, body, hy, hR⟩ := hY pre (low cur) wr hJs (by rw [hx]; exact ⟨cats (rest cur), by simp⟩)
      have hlow := low_any cur hz wr hlr
      have HX := Lib.hid hx
      have HC := Lib.hid hcons
      clear hx hcons
      unfold catVal at hy
      unfold U at hc hlow
      gi_wp2_with (gi_at_call 78; refine (callsIn_wide.2 hlow).mono ?_; rintro e w' ⟨rfl, rfl⟩)
      refine hR.mono ?_
      rintro e W3 (⟨rfl, hJ3, hk3⟩ | ⟨rfl, hJx3⟩)
      · have hb3 : Boxed W3 b 22 (U cur) := hk3.at_.trans hbc
        have hl3 : Laid W3 := hlr.keep hk3.below hn0
        have hc3 := hb3.cell
        have hf3 := hb3.frozen
        unfold U at hc3
        have HE : Hid (bits BinOp.and .u64 (cur.toNat : Int) ((cur.toNat : Int) - 1) = ((rest cur).toNat : Int)) := and_dec cur hz0
        gi_wp2
        have hb4 := hb3.set (.int .u64 (bits BinOp.and .u64 (cur.toNat : Int) ((cur.toNat : Int) - 1)))
        have e4 : Value.int .u64 (bits BinOp.and .u64 (cur.toNat : Int) ((cur.toNat : Int) - 1)) = U (rest cur) := by rw [HE.out]
        go_roundw
        case rel =>
          rw [e4] at hb4 ⊢
          exact ⟨pre ++ [low cur], rest cur, by rw [HX.out]; simp, hb4, hl3.keep ((Below.refl n0 W3).setCell (p := ⟨b, 0, none⟩) hn0b _) hn0, hJ _ _ _ hJ3 (grownBy_setCell' W3 b _)⟩
        case measure =>
          rw [e4] at hb4 ⊢
          rw [leftIn_eq hb4, leftIn_eq hbc, HC.out]; simp
      · clear hc hf hbc
        gi_wp2
        go_end0
        exact ⟨⟨_, rfl⟩, .inr ⟨_, hJx3⟩⟩
theorem each_any (s : BitVec 64) (w : World) :
    Calls Tryz.prog 63 #[U s] w fun e w' => e = .returned (.func (.func 77) #[] #[.pointer (some ⟨w.heap.size, 0, none⟩)]) ∧ w.alloc (.cells #[U s] 22) = w' := by
  go_enter Tryz.func63, Tryz.ntmps63
  go_wp2
  go_ret
  exact ⟨rfl, rfl⟩

/-- What an iterator over a set's categories gives. -/
theorem each_seq (n b n0 : Nat) (s : BitVec 64) (hn0 : gTop ≤ n0) (hn0b : n0 ≤ b) :
    SeqB Fence.wide n Tryz.prog 77 #[.pointer (some ⟨b, 0, none⟩)] catVal b (Keep n0 b) (fun W => Boxed W b 22 (U s) ∧ Laid W) (fun xs => xs = cats s) (fun xs => xs <+: cats s) :=
  fun l J Jx W hP hJ hY h0 => each1_any n b n0 s hn0 l J Jx W hP.1 hP.2 hJ hY h0 hn0b
theorem keep_put {n0 b s : Nat} (hn : n0 ≤ s) (hb : b < s) (W : World) (l : Nat) (o : Obj) (h1 : s ≤ l) (h2 : l < W.heap.size) : Keep n0 b W (W.putObj l o) :=
  (Keep.refl n0 b W).putObj o (by omega) h2 (by omega)
theorem keep_two {n0 b : Nat} {w : World} (hn : n0 ≤ w.heap.size) (hb : b < w.heap.size) (o1 o2 : Obj) : Keep n0 b w ((w.alloc o1).alloc o2) :=
  ((Keep.refl n0 b w).alloc hn hb o1).alloc (by simp; omega) (by simp; omega) o2
end Go.Proofs.YtegjlgdbipfpaaaGreatDoor
