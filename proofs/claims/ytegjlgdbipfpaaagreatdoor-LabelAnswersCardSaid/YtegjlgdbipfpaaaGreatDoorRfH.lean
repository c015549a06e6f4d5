/-
  concordatlaw07.LabelAnswers returns true: its walk.
-/
import Derived.Test.YtegjlgdbipfpaaaGreatDoorRfB
import Derived.Test.YtegjlgdbipfpaaaGreatDoorRfC
import Derived.Test.YtegjlgdbipfpaaaGreatDoorRfE
import Derived.Test.YtegjlgdbipfpaaaGreatDoorRfG
import Derived.Test.YtegjlgdbipfpaaaGreatDoorLabN
import Derived.Test.YtegjlgdbipfpaaaGreatDoorPre
import Derived.Deep.RegionHeld3
import Derived.Deep.QuietTactic
import Derived.BigQuiet
namespace Go.Proofs.YtegjlgdbipfpaaaGreatDoor
open Go Go.RowKit

theorem keep6 {w W W' : World} {p0 p1 p2 p3 p4 p5 : Nat} {x0 y0 x1 y1 x2 y2 x3 y3 x4 y4 x5 y5 : Value} (h : W.cell? ⟨p0, 0, none⟩ = some x0 ∧ W.cell? ⟨p0, 1, none⟩ = some y0 ∧ W.cell? ⟨p1, 0, none⟩ = some x1 ∧ W.cell? ⟨p1, 1, none⟩ = some y1 ∧ W.cell? ⟨p2, 0, none⟩ = some x2 ∧ W.cell? ⟨p2, 1, none⟩ = some y2 ∧ W.cell? ⟨p3, 0, none⟩ = some x3 ∧ W.cell? ⟨p3, 1, none⟩ = some y3 ∧ W.cell? ⟨p4, 0, none⟩ = some x4 ∧ W.cell? ⟨p4, 1, none⟩ = some y4 ∧ W.cell? ⟨p5, 0, none⟩ = some x5 ∧ W.cell? ⟨p5, 1, none⟩ = some y5 ∧ Hid (Below w.heap.size w W))
    (hb : Below W.heap.size W W') : W'.cell? ⟨p0, 0, none⟩ = some x0 ∧ W'.cell? ⟨p0, 1, none⟩ = some y0 ∧ W'.cell? ⟨p1, 0, none⟩ = some x1 ∧ W'.cell? ⟨p1, 1, none⟩ = some y1 ∧ W'.cell? ⟨p2, 0, none⟩ = some x2 ∧ W'.cell? ⟨p2, 1, none⟩ = some y2 ∧ W'.cell? ⟨p3, 0, none⟩ = some x3 ∧ W'.cell? ⟨p3, 1, none⟩ = some y3 ∧ W'.cell? ⟨p4, 0, none⟩ = some x4 ∧ W'.cell? ⟨p4, 1, none⟩ = some y4 ∧ W'.cell? ⟨p5, 0, none⟩ = some x5 ∧ W'.cell? ⟨p5, 1, none⟩ = some y5 ∧ Hid (Below w.heap.size w W') := by
  obtain ⟨h0, h1, h2, h3, h4, h5, h6, h7, h8, h9, h10, h11, hw⟩ := h
  exact ⟨cell_keep h0 hb, cell_keep h1 hb, cell_keep h2 hb, cell_keep h3 hb, cell_keep h4 hb, cell_keep h5 hb, cell_keep h6 hb, cell_keep h7 hb, cell_keep h8 hb, cell_keep h9 hb, cell_keep h10 hb, cell_keep h11 hb, Lib.hid (hw.out.trans (hb.mono hw.out.size))⟩
theorem last6 {w W : World} {P0 P1 P2 P3 P4 P5 P6 P7 P8 P9 P10 P11 : Prop} (h : P0 ∧ P1 ∧ P2 ∧ P3 ∧ P4 ∧ P5 ∧ P6 ∧ P7 ∧ P8 ∧ P9 ∧ P10 ∧ P11 ∧ Hid (Below w.heap.size w W)) : Below w.heap.size w W := h.2.2.2.2.2.2.2.2.2.2.2.2.out
theorem with0 (s t s' t' : BitVec 64) (w : World) : Calls Tryz.prog 10 #[.agg #[U s, U t], .agg #[U s', U t'], .int .u64 0] w fun e w' => e = .returned (.bool (flow s t s' t')) ∧ Below w.heap.size w w' := by
  have h := ref_with s t s' t' 0#64 w
  have e : win (need s t s' t') 0#64 = flow s t s' t' := by
    unfold win flow
    congr 1
    exact BitVec.and_allOnes
  rw [e] at h
  exact h

/-- What both answers on bytes are. -/
def FromSame (n cap : Nat) (a : Option Addr) (w : World) : Prop := ∃ (x y : Int) (ok : Bool),
  (∀ W, Below w.heap.size w W → Calls Tryz.prog 5 #[.slice a n cap] W fun e w' => e = .returned (.tuple #[.agg #[.int .u64 x, .int .u64 y], .bool ok]) ∧ Below W.heap.size W w') ∧
  (∀ W, Below w.heap.size w W → Calls Tryz.prog 6 #[.slice a n cap] W fun e w' => e = .returned (.tuple #[.agg #[.int .u64 x, .int .u64 y], .bool ok]) ∧ Below W.heap.size W w')
theorem lab_facts (t : List UInt8) : ∃ (u v : BitVec 64) (has : Bool), ∀ e, labPost t e → e = .returned (.tuple #[Lab u v, .bool has]) := by
  by_cases h : ∃ a b, labText (showL a) (showL b) = t
  · obtain ⟨a, b, h⟩ := h
    refine ⟨a, b, true, fun e he => ?_⟩
    rcases he with ⟨c, d, h1, h2⟩ | ⟨h1, _⟩
    · obtain ⟨rfl, rfl⟩ := labPost_inj (h1.trans h.symm)
      exact h2
    · exact absurd h (h1 a b)
  · refine ⟨0#64, 0#64, false, fun e he => ?_⟩
    rcases he with ⟨c, d, h1, _⟩ | ⟨_, h2⟩
    · exact absurd ⟨c, d, h1⟩ h
    · exact h2

/-- A world of a class. -/
structure HeldW (S : World → Prop) where
  W : World
  h : S W
theorem heldW_call {P : Program} {S : World → Prop} (hk : ∀ A B, S A → Below A.heap.size A B → S B) {f : FuncId} {args : Array Value} {v : Value} (d : HeldW S)
    (h : Calls P f args d.W fun e w' => e = .returned v ∧ Below d.W.heap.size d.W w') : Calls P f args d.W fun e w' => e = .returned v ∧ ∃ d' : HeldW S, w' = d'.W :=
  h.mono fun _ w' ⟨he, hb⟩ => ⟨he, ⟨⟨w', hk _ _ d.h hb⟩, rfl⟩⟩

set_option maxRecDepth 100000 in
set_option maxHeartbeats 2000000 in
theorem lanswers_short (s1 t1 s2 t2 o : BitVec 64) (a : Option Addr) (n cap : Nat) (t : List UInt8) (w : World) (hfrom : FromSame n cap a w) (hn : n ≤ 100) (ht : t.length ≤ 800) (hg : gTop ≤ w.heap.size) (hl : Laid w) :
    Calls Tryz.prog 3 #[Lab s1 t1, Lab s2 t2, U o, .slice a n cap, Str t] w fun e w' => e = .returned (.bool true) ∧ Below w.heap.size w w' := by
  have HAL := Lib.hid (fun W (h : Below w.heap.size w W) => lalive_any W (Nat.le_trans hg h.size) (hl.below h))
  have hH := more1 (U s2) (U t2) (more0 (U s1) (U t1) (Lib.hid (Below.refl w.heap.size w)))
  simp only [World.size_alloc] at hH
  have H0 := Lib.hid hH
  obtain ⟨x, y, ok, hf1, hf2⟩ := hfrom
  have F1 := Lib.hid hf1
  have F2 := Lib.hid hf2
  obtain ⟨u, v, has, hlab⟩ := lab_facts t
  have HLAB := Lib.hid hlab
  have HL := Lib.hid hl
  clear hH hf1 hf2 hlab hl
  have b1 : decide ((n : Int) > 100) = false := by simp; omega
  have b2 : decide ((100 : Int) < n) = false := by simp; omega
  have b3 : decide ((t.length : Int) > 800) = false := by simp; omega
  have b4 : decide ((800 : Int) < t.length) = false := by simp; omega
  have RL := fun W (h : Below w.heap.size w W) => lread_any t (by omega) W (Nat.le_trans hg h.size) (HL.out.below h)
  have RR := fun W => rlread_any t (by omega) W
  have HRL := Lib.hid RL
  have HRR := Lib.hid RR
  clear RL RR
  go_enter Tryz.func3, Tryz.ntmps3
  go_wp2_with fail
  refine (HAL.out _ (last2 H0.out)).mono ?_
  rintro e w1 ⟨rfl, hb⟩
  have hH := keep2 H0.out hb
  clear hb H0
  go_wp2_with fail
  refine (F1.out _ (last2 hH)).mono ?_
  rintro e w2 ⟨rfl, hb⟩
  have hH2 := more2 (.int .u64 x) (.int .u64 y) (keep2 hH hb)
  clear hb hH
  go_wp2_with fail
  refine (F2.out _ (last3 hH2)).mono ?_
  rintro e w3 ⟨rfl, hb⟩
  have hH := more3 (.int .u64 x) (.int .u64 y) (keep3 hH2 hb)
  clear hb hH2
  go_wp2_with fail
  refine (HRL.out _ (last4 hH)).mono ?_
  rintro e w4 ⟨he, hb⟩
  obtain rfl := HLAB.out e he
  have hH2 := more4 (U u) (U v) (keep4 hH hb)
  clear hb hH he
  go_wp2_with fail
  refine (HRR.out _).mono ?_
  rintro e w5 ⟨he, hb⟩
  obtain rfl := HLAB.out e he
  have hH := more5 (U u) (U v) (keep5 hH2 hb)
  clear hb hH2 he
  go_wp2_with fail
  have fl := fun W => flow_any s1 t1 s2 t2 W
  have rf := fun W => with0 s1 t1 s2 t2 W
  obtain ⟨f0, hf0⟩ : ∃ f, flow s1 t1 s2 t2 = f := ⟨_, rfl⟩
  simp only [hf0] at fl rf
  have wi := fun W => with_at s1 t1 s2 t2 o W
  have rw' := fun W => ref_with s1 t1 s2 t2 o W
  obtain ⟨f1, hf1⟩ : ∃ f, win (need s1 t1 s2 t2) o = f := ⟨_, rfl⟩
  simp only [hf1] at wi rw'
  have ne := fun W => need_at s1 t1 s2 t2 W
  have rn := fun W => ref_need s1 t1 s2 t2 W
  obtain ⟨d, hd⟩ : ∃ f, need s1 t1 s2 t2 = f := ⟨_, rfl⟩
  simp only [hd] at ne rn
  have jn := fun W => join_at s1 t1 s2 t2 W
  have rj := fun W => ref_join s1 t1 s2 t2 W
  obtain ⟨j1, hj1⟩ : ∃ f, s1 ||| s2 = f := ⟨_, rfl⟩
  obtain ⟨j2, hj2⟩ : ∃ f, t1 &&& t2 = f := ⟨_, rfl⟩
  simp only [hj1, hj2] at jn rj
  have mt := fun W => meet_at s1 t1 s2 t2 W
  have rm := fun W => ref_meet s1 t1 s2 t2 W
  obtain ⟨m1, hm1⟩ : ∃ f, s1 &&& s2 = f := ⟨_, rfl⟩
  obtain ⟨m2, hm2⟩ : ∃ f, t1 ||| t2 = f := ⟨_, rfl⟩
  simp only [hm1, hm2] at mt rm
  have ra := fun W => raise_at s1 t1 o s2 W
  have rr := fun W => ref_raise s1 t1 o s2 W
  obtain ⟨q1, hq1⟩ : ∃ f, s1 ||| o = f := ⟨_, rfl⟩
  obtain ⟨q2, hq2⟩ : ∃ f, t1 &&& ~~~s2 = f := ⟨_, rfl⟩
  simp only [hq1, hq2] at ra rr
  have by1 := fun W => lbytes_any s1 t1 W
  have by2 := fun W => rlbytes_any s1 t1 W
  have hLL : (les s1 8 ++ les t1 8).length = 16 := by simp [les_length]
  obtain ⟨LL, hL⟩ : ∃ L, les s1 8 ++ les t1 8 = L := ⟨_, rfl⟩
  simp only [hL] at by1 by2 hLL
  have sb := fun v1 v2 b1 b2 W h1 h2 => sameB_rows v1 v2 b1 b2 16 LL W hLL (by decide) (by decide) h1 h2
  have sa := fun W (h : Below w.heap.size w W) => lshow_any s1 t1 W (Nat.le_trans hg h.size) (HL.out.below h)
  have sr := fun W => rlshow_any s1 t1 W
  obtain ⟨T, hT⟩ : ∃ T, labText (showL s1) (showL t1) = T := ⟨_, rfl⟩
  simp only [hT] at sa sr
  have FL := Lib.hid fl
  have RF := Lib.hid rf
  have WI := Lib.hid wi
  have RW := Lib.hid rw'
  have NE := Lib.hid ne
  have RN := Lib.hid rn
  have JN := Lib.hid jn
  have RJ := Lib.hid rj
  have MT := Lib.hid mt
  have RM := Lib.hid rm
  have RA := Lib.hid ra
  have RR := Lib.hid rr
  have BY1 := Lib.hid by1
  have BY2 := Lib.hid by2
  have SB := Lib.hid sb
  have SA := Lib.hid sa
  have SR := Lib.hid sr
  clear fl rf hf0 wi rw' hf1 ne rn hd jn rj hj1 hj2 mt rm hm1 hm2 ra rr hq1 hq2 by1 by2 hLL hL sb sa sr hT HAL F1 F2 HLAB HL hn b1 b2 ht b3 b4 HRL HRR hg
  simp only [List.append_eq, List.cons_append, List.nil_append]
  obtain ⟨w6, hw6⟩ : ∃ w6, w5.alloc (.cells #[U u, U v] 24) = w6 := ⟨_, rfl⟩
  rw [hw6] at hH ⊢
  clear hw6
  obtain ⟨S, hS⟩ : ∃ S : World → Prop, S = (fun W => W.cell? ⟨w.heap.size, 0, none⟩ = some (U s1) ∧ W.cell? ⟨w.heap.size, 1, none⟩ = some (U t1) ∧ W.cell? ⟨w.heap.size + 1, 0, none⟩ = some (U s2) ∧ W.cell? ⟨w.heap.size + 1, 1, none⟩ = some (U t2) ∧ W.cell? ⟨w2.heap.size, 0, none⟩ = some (.int .u64 x) ∧ W.cell? ⟨w2.heap.size, 1, none⟩ = some (.int .u64 y) ∧ W.cell? ⟨w3.heap.size, 0, none⟩ = some (.int .u64 x) ∧ W.cell? ⟨w3.heap.size, 1, none⟩ = some (.int .u64 y) ∧ W.cell? ⟨w4.heap.size, 0, none⟩ = some (U u) ∧ W.cell? ⟨w4.heap.size, 1, none⟩ = some (U v) ∧ W.cell? ⟨w5.heap.size, 0, none⟩ = some (U u) ∧ W.cell? ⟨w5.heap.size, 1, none⟩ = some (U v) ∧ Hid (Below w.heap.size w W)) := ⟨_, rfl⟩
  have hSc : ∀ W, S W → W.cell? ⟨w.heap.size, 0, none⟩ = some (U s1) ∧ W.cell? ⟨w.heap.size, 1, none⟩ = some (U t1) ∧ W.cell? ⟨w.heap.size + 1, 0, none⟩ = some (U s2) ∧ W.cell? ⟨w.heap.size + 1, 1, none⟩ = some (U t2) ∧ W.cell? ⟨w2.heap.size, 0, none⟩ = some (.int .u64 x) ∧ W.cell? ⟨w2.heap.size, 1, none⟩ = some (.int .u64 y) ∧ W.cell? ⟨w3.heap.size, 0, none⟩ = some (.int .u64 x) ∧ W.cell? ⟨w3.heap.size, 1, none⟩ = some (.int .u64 y) ∧ W.cell? ⟨w4.heap.size, 0, none⟩ = some (U u) ∧ W.cell? ⟨w4.heap.size, 1, none⟩ = some (U v) ∧ W.cell? ⟨w5.heap.size, 0, none⟩ = some (U u) ∧ W.cell? ⟨w5.heap.size, 1, none⟩ = some (U v) ∧ Hid (Below w.heap.size w W) := fun W h => by rw [hS] at h; exact h
  have hk : ∀ A B, S A → Below A.heap.size A B → S B := fun A B => by rw [hS]; exact keep6
  have HS1 : Hid (S w6.drew) := Lib.hid (by rw [hS]; exact keep6 hH ((Below.refl _ _).drew))
  have HK := Lib.hid hk
  have c0 : ∀ d : HeldW S, d.W.cell? ⟨w.heap.size, 0, none⟩ = some (U s1) := fun d => (hSc d.W d.h).1
  have c1 : ∀ d : HeldW S, d.W.cell? ⟨w.heap.size, 1, none⟩ = some (U t1) := fun d => (hSc d.W d.h).2.1
  have c2 : ∀ d : HeldW S, d.W.cell? ⟨w.heap.size + 1, 0, none⟩ = some (U s2) := fun d => (hSc d.W d.h).2.2.1
  have c3 : ∀ d : HeldW S, d.W.cell? ⟨w.heap.size + 1, 1, none⟩ = some (U t2) := fun d => (hSc d.W d.h).2.2.2.1
  have c4 : ∀ d : HeldW S, d.W.cell? ⟨w2.heap.size, 0, none⟩ = some (.int .u64 x) := fun d => (hSc d.W d.h).2.2.2.2.1
  have c5 : ∀ d : HeldW S, d.W.cell? ⟨w2.heap.size, 1, none⟩ = some (.int .u64 y) := fun d => (hSc d.W d.h).2.2.2.2.2.1
  have c6 : ∀ d : HeldW S, d.W.cell? ⟨w3.heap.size, 0, none⟩ = some (.int .u64 x) := fun d => (hSc d.W d.h).2.2.2.2.2.2.1
  have c7 : ∀ d : HeldW S, d.W.cell? ⟨w3.heap.size, 1, none⟩ = some (.int .u64 y) := fun d => (hSc d.W d.h).2.2.2.2.2.2.2.1
  have c8 : ∀ d : HeldW S, d.W.cell? ⟨w4.heap.size, 0, none⟩ = some (U u) := fun d => (hSc d.W d.h).2.2.2.2.2.2.2.2.1
  have c9 : ∀ d : HeldW S, d.W.cell? ⟨w4.heap.size, 1, none⟩ = some (U v) := fun d => (hSc d.W d.h).2.2.2.2.2.2.2.2.2.1
  have c10 : ∀ d : HeldW S, d.W.cell? ⟨w5.heap.size, 0, none⟩ = some (U u) := fun d => (hSc d.W d.h).2.2.2.2.2.2.2.2.2.2.1
  have c11 : ∀ d : HeldW S, d.W.cell? ⟨w5.heap.size, 1, none⟩ = some (U v) := fun d => (hSc d.W d.h).2.2.2.2.2.2.2.2.2.2.2.1
  have HL : Hid (∀ d : HeldW S, Below w.heap.size w d.W) := Lib.hid (fun d => last6 (hSc d.W d.h))
  clear hH hk hS hSc
  haveI hNE : Nonempty (HeldW S) := ⟨⟨_, HS1.out⟩⟩
  refine wp_region_pre (C := fun w' => ∃ d : HeldW S, w' = d.W) 58 34 (by kernel_rfl) (by kernel_rfl) (by kernel_rfl) (by kernel_rfl) (by kernel_rfl) ⟨⟨_, HS1.out⟩, rfl⟩ ?_
  simp only [List.take_succ_cons, List.take_zero]
  repeat (go_big_quiet_step (first
      | (go_at_call 9; exact heldW_call HK.out _ (FL.out _))
      | (go_at_call_of 10 (#[.agg #[U s1, U t1], .agg #[U s2, U t2], .int .u64 0] : Array Value); exact heldW_call HK.out _ (RF.out _))
      | (go_at_call 11; exact heldW_call HK.out _ (WI.out _))
      | (go_at_call_of 10 (#[.agg #[U s1, U t1], .agg #[U s2, U t2], U o] : Array Value); exact heldW_call HK.out _ (RW.out _))
      | (go_at_call 12; exact heldW_call HK.out _ (NE.out _))
      | (go_at_call 13; exact heldW_call HK.out _ (RN.out _))
      | (go_at_call 14; exact heldW_call HK.out _ (JN.out _))
      | (go_at_call 15; exact heldW_call HK.out _ (RJ.out _))
      | (go_at_call 16; exact heldW_call HK.out _ (MT.out _))
      | (go_at_call 17; exact heldW_call HK.out _ (RM.out _))
      | (go_at_call 18; exact heldW_call HK.out _ (RA.out _))
      | (go_at_call 19; exact heldW_call HK.out _ (RR.out _))))
  refine wpQuiet_nil ?_
  rintro _ ⟨d, rfl⟩
  refine wpAnyH_take (i := 59) (v := .agg #[U s1, U t1]) rfl (by kernel_rfl) (by kernel_rfl) (by kernel_rfl) (fun _ _ _ h => h) ?_ ⟨_, rfl⟩ ?_
  · refine .inl ⟨rfl, ?_⟩
    rintro _ ⟨d', rfl⟩
    have e0 := c0 d'
    have e1 := c1 d'
    go_simp
  simp only [Act.put, List.setIfInBounds_toArray]
  refine wpAnyH_take (i := 61) (v := .agg #[U s1, U t1]) rfl (by kernel_rfl) (by kernel_rfl) (by kernel_rfl) (fun _ _ _ h => h) ?_ ⟨_, rfl⟩ ?_
  · refine .inl ⟨rfl, ?_⟩
    rintro _ ⟨d', rfl⟩
    have e0 := c0 d'
    have e1 := c1 d'
    go_simp
  simp only [Act.put]
  refine wpAnyH_ready (rs := [60]) (by kernel_rfl) (by simp) (AllReadyH.cons rfl (fun K' hK => ?_) AllReadyH.nil)
  go_simp
  refine (BY1.out _).mono ?_
  rintro e wr1 ⟨v1, rfl, hr1, hb1⟩
  refine hK.out _ _ ⟨⟨wr1, HK.out _ _ d.h hb1⟩, rfl⟩ (fun _ => ?_)
  clear hK K'
  refine wpAnyH_ready (rs := [62]) (by kernel_rfl) (by simp) (AllReadyH.cons rfl (fun K' hK => ?_) AllReadyH.nil)
  go_simp
  refine (BY2.out _).mono ?_
  rintro e wr2 ⟨v2, rfl, hr2, hb2⟩
  have hr12 := hr1.kept (grownBy_of_below hb2) (none_or_ne _)
  refine hK.out _ _ ⟨⟨wr2, HK.out _ _ (HK.out _ _ d.h hb1) hb2⟩, rfl⟩ (fun _ => ?_)
  clear hK K'
  refine wpAnyH_ready (rs := [63]) (by kernel_rfl) (by simp) (AllReadyH.cons rfl (fun K' hK => ?_) AllReadyH.nil)
  go_simp
  refine (SB.out v1 v2 _ _ _ hr12 hr2).mono ?_
  rintro e wr3 ⟨rfl, hb3⟩
  refine hK.out _ _ ⟨⟨wr3, HK.out _ _ (HK.out _ _ (HK.out _ _ d.h hb1) hb2) hb3⟩, rfl⟩ (fun _ => ?_)
  have hS3 := HK.out _ _ (HK.out _ _ (HK.out _ _ d.h hb1) hb2) hb3
  clear hK K' hr1 hr2 hr12 hb1 hb2 hb3
  refine wpAnyH_end 64 (by kernel_rfl) (by kernel_rfl) (by kernel_rfl) (by kernel_rfl) ⟨⟨wr3, hS3⟩, rfl⟩ ?_
  simp only [List.drop_succ_cons, List.drop_zero]
  repeat (go_big_quiet_step (first
      | (go_at_call 23; exact heldW_call HK.out _ (SA.out _ (HL.out _)))
      | (go_at_call 24; exact heldW_call HK.out _ (SR.out _))))
  refine wpQuiet_nil ?_
  rintro _ ⟨d4, rfl⟩
  go_wp2
  go_ret
  exact ⟨rfl, HL.out _⟩

set_option maxRecDepth 100000 in
theorem lanswers_great (s1 t1 s2 t2 o : BitVec 64) (a : Option Addr) (n cap : Nat) (t : List UInt8) (w : World) (hn : 100 < n) (hg : gTop ≤ w.heap.size) (hl : Laid w) :
    Calls Tryz.prog 3 #[Lab s1 t1, Lab s2 t2, U o, .slice a n cap, Str t] w fun e w' => e = .returned (.bool true) ∧ Below w.heap.size w w' := by
  have HAL := Lib.hid (fun W (h : Below w.heap.size w W) => lalive_any W (Nat.le_trans hg h.size) (hl.below h))
  have hH := more1 (U s2) (U t2) (more0 (U s1) (U t1) (Lib.hid (Below.refl w.heap.size w)))
  simp only [World.size_alloc] at hH
  have H0 := Lib.hid hH
  clear hH hl
  have b1 : decide ((n : Int) > 100) = true := by simp; omega
  have b2 : decide ((100 : Int) < n) = true := by simp; omega
  go_enter Tryz.func3, Tryz.ntmps3
  go_wp2_with fail
  refine (HAL.out _ (last2 H0.out)).mono ?_
  rintro e w1 ⟨rfl, hb⟩
  have H1 := Lib.hid (keep2 H0.out hb)
  clear hb H0
  go_wp2
  all_goals
    go_ret
    exact ⟨rfl, last2 H1.out⟩

set_option maxRecDepth 100000 in
theorem lanswers_long (s1 t1 s2 t2 o : BitVec 64) (a : Option Addr) (n cap : Nat) (t : List UInt8) (w : World) (hn : n ≤ 100) (ht : 800 < t.length) (hg : gTop ≤ w.heap.size) (hl : Laid w) :
    Calls Tryz.prog 3 #[Lab s1 t1, Lab s2 t2, U o, .slice a n cap, Str t] w fun e w' => e = .returned (.bool true) ∧ Below w.heap.size w w' := by
  have HAL := Lib.hid (fun W (h : Below w.heap.size w W) => lalive_any W (Nat.le_trans hg h.size) (hl.below h))
  have hH := more1 (U s2) (U t2) (more0 (U s1) (U t1) (Lib.hid (Below.refl w.heap.size w)))
  simp only [World.size_alloc] at hH
  have H0 := Lib.hid hH
  clear hH hl
  have b1 : decide ((n : Int) > 100) = false := by simp; omega
  have b2 : decide ((100 : Int) < n) = false := by simp; omega
  have b3 : decide ((t.length : Int) > 800) = true := by simp; omega
  have b4 : decide ((800 : Int) < t.length) = true := by simp; omega
  go_enter Tryz.func3, Tryz.ntmps3
  go_wp2_with fail
  refine (HAL.out _ (last2 H0.out)).mono ?_
  rintro e w1 ⟨rfl, hb⟩
  have H1 := Lib.hid (keep2 H0.out hb)
  clear hb H0
  go_wp2
  all_goals
    go_ret
    exact ⟨rfl, last2 H1.out⟩

/-- Of sixteen bytes, and of others. -/
theorem from_same (a : Option Addr) (n cap : Nat) (w : World) (hcap : n ≤ cap) (h : n = 16 → ∃ (g off : Nat) (L : List Nat), a = some ⟨g, off, none⟩ ∧ g < w.heap.size ∧ L.length = 16 ∧ (∀ x ∈ L, x < 256) ∧ ∀ j, j < 16 → w.cell? ⟨g, off + j, none⟩ = some (.int .u8 (nthB L j : Int))) : FromSame n cap a w := by
  by_cases hn : n = 16
  · subst hn
    obtain ⟨g, off, L, rfl, hgl, hlen, h256, hc⟩ := h rfl
    have e : L.take 8 ++ L.drop 8 = L := List.take_append_drop 8 L
    have l1 : (L.take 8).length = 8 := by rw [List.length_take]; omega
    have l2 : (L.drop 8).length = 8 := by rw [List.length_drop]; omega
    have k1 : ∀ x ∈ L.take 8, x < 256 := fun x hx => h256 x (List.mem_of_mem_take hx)
    have k2 : ∀ x ∈ L.drop 8, x < 256 := fun x hx => h256 x (List.mem_of_mem_drop hx)
    refine ⟨(ofLE (L.take 8) : Int), (ofLE (L.drop 8) : Int), true, fun W hb => ?_, fun W hb => ?_⟩
    · exact lfrom_ok g off cap (L.take 8) (L.drop 8) W l1 l2 k1 k2 (Nat.lt_of_lt_of_le hgl hb.size) hcap (fun j hj => by rw [e]; exact (hb.cell (p := ⟨g, off + j, none⟩) hgl).trans (hc j hj))
    · exact rlfrom_ok g off cap (L.take 8) (L.drop 8) W l1 l2 k1 k2 (Nat.lt_of_lt_of_le hgl hb.size) hcap (fun j hj => by rw [e]; exact (hb.cell (p := ⟨g, off + j, none⟩) hgl).trans (hc j hj))
  · exact ⟨0, 0, false, fun W _ => lfrom_no a n cap W hn, fun W _ => rlfrom_no a n cap W hn⟩

theorem lanswers_any (s1 t1 s2 t2 o : BitVec 64) (a : Option Addr) (n cap : Nat) (t : List UInt8) (w : World) (hfrom : FromSame n cap a w) (hg : gTop ≤ w.heap.size) (hl : Laid w) :
    Calls Tryz.prog 3 #[Lab s1 t1, Lab s2 t2, U o, .slice a n cap, Str t] w fun e w' => e = .returned (.bool true) ∧ Below w.heap.size w w' := by
  by_cases hn : n ≤ 100
  · by_cases ht : t.length ≤ 800
    · exact lanswers_short s1 t1 s2 t2 o a n cap t w hfrom hn ht hg hl
    · exact lanswers_long s1 t1 s2 t2 o a n cap t w hn (by omega) hg hl
  · exact lanswers_great s1 t1 s2 t2 o a n cap t w (by omega) hg hl
end Go.Proofs.YtegjlgdbipfpaaaGreatDoor
