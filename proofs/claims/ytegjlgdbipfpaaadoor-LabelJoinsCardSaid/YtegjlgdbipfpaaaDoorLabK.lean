/-
  concordatlaw07.LabelJoins returns true: its walk.
-/
import Derived.Test.YtegjlgdbipfpaaaDoorLabN
import Derived.Deep.QuietTactic
import Derived.BigQuiet
namespace Go.Proofs.YtegjlgdbipfpaaaDoor
open Go Go.RowKit

/-- A world of a class. -/
structure HeldW (S : World → Prop) where
  W : World
  h : S W
theorem wp_region_heldW {P : Program} {S : World → Prop} {id : Nat} {Q : Exit → Act → World → Prop} {a : Act} {w : World} {l : List Oper} (hm : P.follows .mixedOrders = true) (hB : Region.lexB .any l.toArray = true) (hC : S w.drew)
    (h : wpQuiet P l.toArray (fun w' => ∃ d : HeldW S, w' = d.W) (fun a' => ∀ w', (∃ d : HeldW S, w' = d.W) → Q .normal a' w') l a) : (Code.region id l.toArray true).wp P Q a w :=
  wp_region_quiet (C := fun w' => ∃ d : HeldW S, w' = d.W) hm hB ⟨⟨_, hC⟩, rfl⟩ (by simpa using h)
theorem heldW_call {P : Program} {S : World → Prop} (hk : ∀ A B, S A → Below A.heap.size A B → S B) {f : FuncId} {args : Array Value} {v : Value} (d : HeldW S)
    (h : Calls P f args d.W fun e w' => e = .returned v ∧ Below d.W.heap.size d.W w') : Calls P f args d.W fun e w' => e = .returned v ∧ ∃ d' : HeldW S, w' = d'.W :=
  h.mono fun _ w' ⟨he, hb⟩ => ⟨he, ⟨⟨w', hk _ _ d.h hb⟩, rfl⟩⟩

set_option maxRecDepth 100000 in
set_option maxHeartbeats 2000000 in
theorem ljoins_any (s1 t1 s2 t2 s3 t3 o : BitVec 64) (w : World) (hg : gTop ≤ w.heap.size) (hl : Laid w) :
    Calls Tryd.prog 14 #[Lab s1 t1, Lab s2 t2, Lab s3 t3, U o] w fun e w' => e = .returned (.bool true) ∧ Below w.heap.size w w' := by
  have HAL := Lib.hid (fun W (h : Below w.heap.size w W) => lalive_any W (Nat.le_trans hg h.size) (hl.below h))
  have hH := more2 (U s3) (U t3) (more1 (U s2) (U t2) (more0 (U s1) (U t1) (Lib.hid (Below.refl w.heap.size w))))
  simp only [World.size_alloc] at hH
  have jn := fun W => join_at s1 t1 s2 t2 W
  have mt := fun W => meet_at s1 t1 s2 t2 W
  have njc := fun W => need_at (s1 ||| s2) (t1 &&& t2) s3 t3 W
  have nac := fun W => need_at s1 t1 s3 t3 W
  have nbc := fun W => need_at s2 t2 s3 t3 W
  have ncm := fun W => need_at s3 t3 (s1 &&& s2) (t1 ||| t2) W
  have nca := fun W => need_at s3 t3 s1 t1 W
  have ncb := fun W => need_at s3 t3 s2 t2 W
  have wjc := fun W => with_at (s1 ||| s2) (t1 &&& t2) s3 t3 o W
  have wac := fun W => with_at s1 t1 s3 t3 o W
  have wbc := fun W => with_at s2 t2 s3 t3 o W
  simp only [need_join, win_join] at njc wjc
  simp only [need_meet] at ncm
  obtain ⟨p, hp⟩ : ∃ p, s1 ||| s2 = p := ⟨_, rfl⟩
  obtain ⟨q, hq⟩ : ∃ q, t1 &&& t2 = q := ⟨_, rfl⟩
  obtain ⟨u, hu⟩ : ∃ p, s1 &&& s2 = p := ⟨_, rfl⟩
  obtain ⟨v, hv⟩ : ∃ q, t1 ||| t2 = q := ⟨_, rfl⟩
  simp only [hp, hq] at jn njc wjc
  simp only [hu, hv] at mt ncm
  obtain ⟨x, hx⟩ : ∃ p, need s1 t1 s3 t3 = p := ⟨_, rfl⟩
  obtain ⟨y, hy⟩ : ∃ p, need s2 t2 s3 t3 = p := ⟨_, rfl⟩
  obtain ⟨x', hx'⟩ : ∃ p, need s3 t3 s1 t1 = p := ⟨_, rfl⟩
  obtain ⟨y', hy'⟩ : ∃ p, need s3 t3 s2 t2 = p := ⟨_, rfl⟩
  simp only [hx, hy] at njc nac nbc wjc wac wbc
  simp only [hx', hy'] at nca ncb ncm
  obtain ⟨f, hf⟩ : ∃ p, win x o = p := ⟨_, rfl⟩
  obtain ⟨g, hgg⟩ : ∃ p, win y o = p := ⟨_, rfl⟩
  simp only [hf, hgg] at wjc wac wbc
  have ho1 := or_bv x y
  have ho2 := or_bv x' y'
  obtain ⟨z, hz⟩ : ∃ p, x ||| y = p := ⟨_, rfl⟩
  obtain ⟨z', hz'⟩ : ∃ p, x' ||| y' = p := ⟨_, rfl⟩
  rw [hz] at ho1
  rw [hz'] at ho2
  simp only [hz] at njc
  simp only [hz'] at ncm
  have JN := Lib.hid jn
  have MT := Lib.hid mt
  have NJC := Lib.hid njc
  have NAC := Lib.hid nac
  have NBC := Lib.hid nbc
  have NCM := Lib.hid ncm
  have NCA := Lib.hid nca
  have NCB := Lib.hid ncb
  have WJC := Lib.hid wjc
  have WAC := Lib.hid wac
  have WBC := Lib.hid wbc
  have HO1 := Lib.hid ho1
  have HO2 := Lib.hid ho2
  have H0 := Lib.hid hH
  clear jn mt njc nac nbc ncm nca ncb wjc wac wbc ho1 ho2 hp hq hu hv hx hy hx' hy' hf hgg hz hz' hH hl
  go_enter Tryd.func14, Tryd.ntmps14
  go_wp2_with fail
  refine (HAL.out _ (last3 H0.out)).mono ?_
  rintro e w1 ⟨rfl, hb⟩
  have hH := keep3 H0.out hb
  clear hb H0
  go_wp2_with fail
  refine (JN.out _).mono ?_
  rintro e w2 ⟨rfl, hb⟩
  have hH2 := more3 (U p) (U q) (keep3 hH hb)
  clear hb hH
  go_wp2_with fail
  refine (MT.out _).mono ?_
  rintro e w3 ⟨rfl, hb⟩
  have hH := more4 (U u) (U v) (keep4 hH2 hb)
  clear hb hH2
  have ho1 := HO1.out
  have ho2 := HO2.out
  cases f <;> cases g
  all_goals
    go_wp2_with fail
    obtain ⟨S, hS⟩ : ∃ S : World → Prop, S = (fun W => W.cell? ⟨w.heap.size, 0, none⟩ = some (U s1) ∧ W.cell? ⟨w.heap.size, 1, none⟩ = some (U t1) ∧ W.cell? ⟨w.heap.size + 1, 0, none⟩ = some (U s2) ∧ W.cell? ⟨w.heap.size + 1, 1, none⟩ = some (U t2) ∧ W.cell? ⟨w.heap.size + 1 + 1, 0, none⟩ = some (U s3) ∧ W.cell? ⟨w.heap.size + 1 + 1, 1, none⟩ = some (U t3) ∧ W.cell? ⟨w2.heap.size, 0, none⟩ = some (U p) ∧ W.cell? ⟨w2.heap.size, 1, none⟩ = some (U q) ∧ W.cell? ⟨w3.heap.size, 0, none⟩ = some (U u) ∧ W.cell? ⟨w3.heap.size, 1, none⟩ = some (U v) ∧ Hid (Below w.heap.size w W)) := ⟨_, rfl⟩
    have hSc : ∀ W, S W → W.cell? ⟨w.heap.size, 0, none⟩ = some (U s1) ∧ W.cell? ⟨w.heap.size, 1, none⟩ = some (U t1) ∧ W.cell? ⟨w.heap.size + 1, 0, none⟩ = some (U s2) ∧ W.cell? ⟨w.heap.size + 1, 1, none⟩ = some (U t2) ∧ W.cell? ⟨w.heap.size + 1 + 1, 0, none⟩ = some (U s3) ∧ W.cell? ⟨w.heap.size + 1 + 1, 1, none⟩ = some (U t3) ∧ W.cell? ⟨w2.heap.size, 0, none⟩ = some (U p) ∧ W.cell? ⟨w2.heap.size, 1, none⟩ = some (U q) ∧ W.cell? ⟨w3.heap.size, 0, none⟩ = some (U u) ∧ W.cell? ⟨w3.heap.size, 1, none⟩ = some (U v) ∧ Hid (Below w.heap.size w W) := fun W h => by rw [hS] at h; exact h
    have hk : ∀ A B, S A → Below A.heap.size A B → S B := fun A B => by rw [hS]; exact keep5
    have HS1 : Hid (S (w3.alloc (.cells #[U u, U v] 53)).drew) := Lib.hid (by rw [hS]; exact keep5 hH ((Below.refl _ _).drew))
    have HK := Lib.hid hk
    have c0 : ∀ d : HeldW S, d.W.cell? ⟨w.heap.size, 0, none⟩ = some (U s1) := fun d => (hSc d.W d.h).1
    have c1 : ∀ d : HeldW S, d.W.cell? ⟨w.heap.size, 1, none⟩ = some (U t1) := fun d => (hSc d.W d.h).2.1
    have c2 : ∀ d : HeldW S, d.W.cell? ⟨w.heap.size + 1, 0, none⟩ = some (U s2) := fun d => (hSc d.W d.h).2.2.1
    have c3 : ∀ d : HeldW S, d.W.cell? ⟨w.heap.size + 1, 1, none⟩ = some (U t2) := fun d => (hSc d.W d.h).2.2.2.1
    have c4 : ∀ d : HeldW S, d.W.cell? ⟨w.heap.size + 1 + 1, 0, none⟩ = some (U s3) := fun d => (hSc d.W d.h).2.2.2.2.1
    have c5 : ∀ d : HeldW S, d.W.cell? ⟨w.heap.size + 1 + 1, 1, none⟩ = some (U t3) := fun d => (hSc d.W d.h).2.2.2.2.2.1
    have c6 : ∀ d : HeldW S, d.W.cell? ⟨w2.heap.size, 0, none⟩ = some (U p) := fun d => (hSc d.W d.h).2.2.2.2.2.2.1
    have c7 : ∀ d : HeldW S, d.W.cell? ⟨w2.heap.size, 1, none⟩ = some (U q) := fun d => (hSc d.W d.h).2.2.2.2.2.2.2.1
    have c8 : ∀ d : HeldW S, d.W.cell? ⟨w3.heap.size, 0, none⟩ = some (U u) := fun d => (hSc d.W d.h).2.2.2.2.2.2.2.2.1
    have c9 : ∀ d : HeldW S, d.W.cell? ⟨w3.heap.size, 1, none⟩ = some (U v) := fun d => (hSc d.W d.h).2.2.2.2.2.2.2.2.2.1
    have HL : Hid (∀ d : HeldW S, Below w.heap.size w d.W) := Lib.hid (fun d => last5 (hSc d.W d.h))
    clear hH hk hS hSc
    haveI hNE : Nonempty (HeldW S) := ⟨⟨_, HS1.out⟩⟩
    refine wp_region_heldW (S := S) (by kernel_rfl) (by kernel_rfl) HS1.out ?_
    repeat (go_big_quiet_step (first
      | (go_at_call_of 42 (#[.agg #[U p, U q], .agg #[U s3, U t3]] : Array Value); exact heldW_call HK.out _ (NJC.out _))
      | (go_at_call_of 42 (#[.agg #[U s1, U t1], .agg #[U s3, U t3]] : Array Value); exact heldW_call HK.out _ (NAC.out _))
      | (go_at_call_of 42 (#[.agg #[U s2, U t2], .agg #[U s3, U t3]] : Array Value); exact heldW_call HK.out _ (NBC.out _))
      | (go_at_call_of 42 (#[.agg #[U s3, U t3], .agg #[U u, U v]] : Array Value); exact heldW_call HK.out _ (NCM.out _))
      | (go_at_call_of 42 (#[.agg #[U s3, U t3], .agg #[U s1, U t1]] : Array Value); exact heldW_call HK.out _ (NCA.out _))
      | (go_at_call_of 42 (#[.agg #[U s3, U t3], .agg #[U s2, U t2]] : Array Value); exact heldW_call HK.out _ (NCB.out _))
      | (go_at_call_of 43 (#[.agg #[U p, U q], .agg #[U s3, U t3], U o] : Array Value); exact heldW_call HK.out _ (WJC.out _))
      | (go_at_call_of 43 (#[.agg #[U s1, U t1], .agg #[U s3, U t3], U o] : Array Value); exact heldW_call HK.out _ (WAC.out _))
      | (go_at_call_of 43 (#[.agg #[U s2, U t2], .agg #[U s3, U t3], U o] : Array Value); exact heldW_call HK.out _ (WBC.out _))))
    refine wpQuiet_nil ?_
    rintro _ ⟨d, rfl⟩
    go_wp2
    go_ret
    exact ⟨rfl, HL.out d⟩
end Go.Proofs.YtegjlgdbipfpaaaDoor
