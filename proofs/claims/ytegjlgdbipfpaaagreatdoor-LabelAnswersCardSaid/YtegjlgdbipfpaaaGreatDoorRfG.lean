/-
  The reference's Read on labels.
-/
import Derived.Test.YtegjlgdbipfpaaaGreatDoorRfD
namespace Go.Proofs.YtegjlgdbipfpaaaGreatDoor
open Go Go.RowKit

theorem resRD : Tryz.f8.results = #[.cell 2 24, .tmp 3] := by kernel_rfl

theorem first_space {t : List UInt8} {k : Nat} (hk : k < t.length) (h32 : t[k] = 32) (hno : ∀ j, j < k → t[j]? ≠ some 32) (a b : BitVec 64) (h : labText (showL a) (showL b) = t) :
    (t.take k).drop 2 = showL a ∧ t.drop (k + 3) = showL b ∧ 2 ≤ k ∧ k + 3 ≤ t.length := by
  have hn : (32 : UInt8) ∉ t.take k := by
    intro hm
    obtain ⟨j, hj, he⟩ := List.getElem_of_mem hm
    rw [List.length_take] at hj
    refine hno j (by omega) ?_
    rw [List.getElem_take] at he
    rw [List.getElem?_eq_getElem (by omega), he]
  have ht : t = t.take k ++ 32 :: t.drop (k + 1) := by
    rw [← h32, List.getElem_cons_drop]; simp
  have h1 := cut_sep 32 (t.take k) (t.drop (k + 1)) hn
  rw [← ht] at h1
  have h2 := cut_lab a b
  rw [h, h1] at h2
  simp only [Prod.mk.injEq, and_true] at h2
  obtain ⟨e1, e2⟩ := h2
  have l1 := congrArg List.length e1
  have l2 := congrArg List.length e2
  simp only [List.length_take, List.length_append, List.length_drop, List.length_cons, List.length_nil] at l1 l2
  refine ⟨by rw [e1]; rfl, ?_, by omega, by omega⟩
  rw [show k + 3 = (k + 1) + 2 from rfl, ← List.drop_drop, e2]; rfl
theorem no_space {t : List UInt8} (hno : ∀ j, j < t.length → t[j]? ≠ some 32) (a b : BitVec 64) : labText (showL a) (showL b) ≠ t := by
  intro h
  have hm : (32 : UInt8) ∈ t := by rw [← h]; simp [labText]
  obtain ⟨j, hj, he⟩ := List.getElem_of_mem hm
  exact hno j hj (by rw [List.getElem?_eq_getElem hj, he])

theorem str_cut (t : List UInt8) (a b : Nat) : Value.string ((ByteArray.mk t.toArray).extract a b) = Str ((t.take b).drop a) := by
  show Value.string _ = Value.string _
  congr 1
  apply ByteArray.ext
  apply Array.ext'
  rw [Lib.extract_data, List.drop_take]

set_option maxRecDepth 100000 in
set_option maxHeartbeats 8000000 in
theorem rlread_any (t : List UInt8) (ht : t.length ≤ 4294967280) (w : World) :
    Calls Tryz.prog 8 #[Str t] w fun e w' => labPost t e ∧ Below w.heap.size w w' := by
  obtain ⟨n, hn⟩ : ∃ n, t.length = n := ⟨_, rfl⟩
  have HN := Lib.hid hn
  have hx0 := World.alloc_heap_new w (.cells #[.int .u64 0, .int .u64 0] 24)
  have hB0 := below1 w (.cells #[.int .u64 0, .int .u64 0] 24)
  obtain ⟨w0, hw0⟩ : ∃ w0, w.alloc (.cells #[.int .u64 0, .int .u64 0] 24) = w0 := ⟨_, rfl⟩
  rw [hw0] at hx0 hB0
  have HX0 := Lib.hid hx0
  have HB0 := Lib.hid hB0
  clear hx0 hB0
  go_enter Tryz.func8, Tryz.ntmps8
  go_wp2_with fail
  try rw [hw0]
  clear hw0
  go_loop [4] (fun i => ∃ k : Nat, k ≤ n ∧ i = .int .i64 k ∧ Hid (∀ j, j < k → t[j]? ≠ some 32)) (fun i => n - (intOf i).toNat)
  case atStart => exact ⟨0, by omega, rfl, Lib.hid (fun j h => by omega)⟩
  case round =>
    obtain ⟨k, hk, rfl, hno⟩ := hrel
    obtain ⟨z0, f0, f1, k1, hx⟩ := two_store (.int .u64 0) (.int .u64 0) HX0.out
    have HX := Lib.hid hx
    have HB := Lib.hid ((HB0.out.setCell (p := ⟨w.heap.size, 0, none⟩) (Nat.le_refl _) (.int .u64 0)).setCell (p := ⟨w.heap.size, 1, none⟩) (Nat.le_refl _) (.int .u64 0))
    clear hx
    by_cases hlt : k < n
    · have hsz : k < (ByteArray.mk t.toArray).size := by simp [ByteArray.size]; omega
      by_cases hc : t[k]'(by omega) = 32
      · have h32 : ((((ByteArray.mk t.toArray)[k]'hsz).toNat : Int) != 32) = false := by
          rw [show (ByteArray.mk t.toArray)[k]'hsz = 32 from hc]; rfl
        have HC := Lib.hid hc
        clear hc
        by_cases h2 : 2 ≤ k
        · have e1 : decide ((k : Int) < 2) = false := by simp; omega
          by_cases h3 : k + 3 ≤ n
          · have e2 : decide ((n : Int) < (k : Int) + 3) = false := by simp; omega
            clear z0 f0 f1 k1 HX HB
            have hf : ∀ a b, labText (showL a) (showL b) = t → (t.take k).drop 2 = showL a ∧ t.drop (k + 3) = showL b := fun a b h => by
              have := first_space (HN.out ▸ hlt) HC.out hno.out a b h
              exact ⟨this.1, this.2.1⟩
            have hp2 : (t.take n).drop (k + 3) = t.drop (k + 3) := by rw [List.take_of_length_le (by rw [HN.out]; exact Nat.le_refl _)]
            have hs1 := str_cut t 2 k
            have hs2 := str_cut t (k + 3) n
            rw [hp2] at hs2
            have l1 : ((t.take k).drop 2).length ≤ 4294967280 := by simp; omega
            have l2 : (t.drop (k + 3)).length ≤ 4294967280 := by simp; omega
            obtain ⟨p1, hp1⟩ : ∃ p, (t.take k).drop 2 = p := ⟨_, rfl⟩
            obtain ⟨p2, hp2'⟩ : ∃ p, t.drop (k + 3) = p := ⟨_, rfl⟩
            rw [hp1] at hs1 l1
            rw [hp2'] at hs2 l2
            simp only [hp1, hp2'] at hf
            have HF := Lib.hid hf
            have HS1 := Lib.hid hs1
            have HS2 := Lib.hid hs2
            clear hf hs1 hs2 hp1 hp2' hp2
            obtain ⟨u, ok, hu1, hu2, hu3⟩ := read_facts p1
            obtain ⟨v, is, hv1, hv2, hv3⟩ := read_facts p2
            have HU1 := Lib.hid hu1
            have HU2 := Lib.hid hu2
            have HV1 := Lib.hid hv1
            have HV2 := Lib.hid hv2
            have R1 := fun W => ref_read_in p1 l1 W
            have R2 := fun W => ref_read_in p2 l2 W
            rw [← HS1.out] at R1
            rw [← HS2.out] at R2
            have HR1 := Lib.hid R1
            have HR2 := Lib.hid R2
            clear hu1 hu2 hu3 hv1 hv2 hv3 R1 R2 l1 l2 HC hno HS1 HS2
            go_wp2_with fail
            refine (HR1.out _).mono ?_
            rintro e w1 ⟨hr1, hb1⟩
            obtain rfl := HU1.out e hr1
            have hBw1 := HB0.out.trans (hb1.mono HB0.out.size)
            have hx1 := (hb1.block _ (Array.getElem?_eq_some_iff.1 HX0.out).1).trans HX0.out
            have HX1 := Lib.hid hx1
            have HB1 := Lib.hid hBw1
            clear hr1 hb1 hx1 hBw1
            go_wp2_with fail
            refine (HR2.out _).mono ?_
            rintro e w2 ⟨hr2, hb2⟩
            obtain rfl := HV1.out e hr2
            have hBw2 := HB1.out.trans (hb2.mono HB1.out.size)
            have hx2 := (hb2.block _ (Array.getElem?_eq_some_iff.1 HX1.out).1).trans HX1.out
            have HX2 := Lib.hid hx2
            have HB2 := Lib.hid hBw2
            clear hr2 hb2 hx2 hBw2
            have hbl2 : w.heap.size < w2.heap.size := (Array.getElem?_eq_some_iff.1 HX2.out).1
            have hsh := fun W => rlshow_any u v W
            obtain ⟨T, hT⟩ : ∃ T, labText (showL u) (showL v) = T := ⟨_, rfl⟩
            simp only [hT] at hsh
            have HSH := Lib.hid hsh
            have HT := Lib.hid hT
            have hx4 : (w2.alloc (.cells #[.int .u64 (u.toNat : Int), .int .u64 (v.toNat : Int)] 24)).heap[w.heap.size]? = some (.cells #[.int .u64 0, .int .u64 0] 24) := (Below.heap_alloc _ _ _ hbl2).trans HX2.out
            have hB4 : Below w.heap.size w (w2.alloc (.cells #[.int .u64 (u.toNat : Int), .int .u64 (v.toNat : Int)] 24)) := HB2.out.alloc HB2.out.size _
            have HX4 := Lib.hid hx4
            have HB4 := Lib.hid hB4
            clear hsh hT
            by_cases hfl : ok = true ∧ is = true
            · obtain ⟨rfl, rfl⟩ := hfl
              have hxx : (w2.alloc (.cells #[.int .u64 (u.toNat : Int), .int .u64 (v.toNat : Int)] 24)).heap[w2.heap.size]? = some (.cells #[.int .u64 (u.toNat : Int), .int .u64 (v.toNat : Int)] 24) := World.alloc_heap_new w2 _
              have HXX := Lib.hid hxx
              have hbne : w.heap.size ≠ w2.heap.size := by omega
              have HNE := Lib.hid hbne
              clear hx4 hB4 hbl2 hxx hbne
              go_wp2_with fail
              refine (HSH.out _).mono ?_
              rintro e w5 ⟨rfl, hb5⟩
              have hBw5 := HB4.out.trans (hb5.mono HB4.out.size)
              have hx5 := (hb5.block _ (Array.getElem?_eq_some_iff.1 HX4.out).1).trans HX4.out
              have hy5 := (hb5.block _ (Array.getElem?_eq_some_iff.1 HXX.out).1).trans HXX.out
              have HX5 := Lib.hid hx5
              have HY5 := Lib.hid hy5
              have HB5 := Lib.hid hBw5
              clear hb5 hx5 hy5 hBw5 HSH HX4 HXX HB4
              by_cases he : T = t
              · have hb : (T == t) = true := by rw [beq_iff_eq]; exact he
                have hb2 : (T != t) = false := by rw [bne_eq_false_iff_eq]; exact he
                have hy0 : w5.cell? ⟨w2.heap.size, 0, none⟩ = some (U u) := cell_of_row _ _ _ _ _ _ HY5.out
                have hy1 : w5.cell? ⟨w2.heap.size, 1, none⟩ = some (U v) := cell_of_row _ _ _ _ _ _ HY5.out
                obtain ⟨c0, f0, f1, k1, hx6⟩ := two_store (U u) (U v) HX5.out
                have HX6 := Lib.hid hx6
                have HB6 := Lib.hid ((HB5.out.setCell (p := ⟨w.heap.size, 0, none⟩) (Nat.le_refl _) (U u)).setCell (p := ⟨w.heap.size, 1, none⟩) (Nat.le_refl _) (U v))
                have HE := Lib.hid he
                clear hx6 he
                go_wp2
                exact bodyPost_ret (lab_results2 resRD _ _ _ _ _ _ _ rfl HX6.out) rfl ⟨.inl ⟨u, v, HT.out.trans HE.out, rfl⟩, HB6.out⟩
              · have hb : (T == t) = false := by rw [beq_eq_false_iff_ne]; exact he
                have hb2 : (T != t) = true := by rw [bne_iff_ne]; exact he
                have hno : Hid (∀ a b, labText (showL a) (showL b) ≠ t) := Lib.hid (fun a b h => by
                  obtain ⟨h1, h3⟩ := HF.out a b h
                  have e1 := (HU2.out a h1.symm).1
                  have e2 := (HV2.out b h3.symm).1
                  subst e1 e2
                  exact he (HT.out.symm.trans h))
                obtain ⟨c0, f0, f1, k1, hx6⟩ := two_store (.int .u64 0) (.int .u64 0) HX5.out
                have HX6 := Lib.hid hx6
                have HB6 := Lib.hid ((HB5.out.setCell (p := ⟨w.heap.size, 0, none⟩) (Nat.le_refl _) (.int .u64 0)).setCell (p := ⟨w.heap.size, 1, none⟩) (Nat.le_refl _) (.int .u64 0))
                clear hx6 he
                go_wp2
                exact bodyPost_ret (lab_results2 resRD _ _ _ _ _ _ _ rfl HX6.out) rfl ⟨.inr ⟨hno.out, rfl⟩, HB6.out⟩
            · have hno : Hid (∀ a b, labText (showL a) (showL b) ≠ t) := Lib.hid (fun a b h => by
                obtain ⟨h1, h3⟩ := HF.out a b h
                exact hfl ⟨(HU2.out a h1.symm).2, (HV2.out b h3.symm).2⟩)
              obtain ⟨c0, f0, f1, k1, hx5⟩ := two_store (.int .u64 0) (.int .u64 0) hx4
              have HX5 := Lib.hid hx5
              have HB5 := Lib.hid ((hB4.setCell (p := ⟨w.heap.size, 0, none⟩) (Nat.le_refl _) (.int .u64 0)).setCell (p := ⟨w.heap.size, 1, none⟩) (Nat.le_refl _) (.int .u64 0))
              clear hx4 hx5 hB4 hbl2
              have hcase : ok = false ∨ ok = true ∧ is = false := by
                cases ok <;> cases is <;> simp_all
              clear hfl
              rcases hcase with rfl | ⟨rfl, rfl⟩
              all_goals
                go_wp2
                exact bodyPost_ret (lab_results2 resRD _ _ _ _ _ _ _ rfl HX5.out) rfl ⟨.inr ⟨hno.out, rfl⟩, HB5.out⟩
          · have e2 : decide ((n : Int) < (k : Int) + 3) = true := by simp; omega
            go_wp2
            refine bodyPost_ret (lab_results2 resRD _ _ _ _ _ _ _ rfl HX.out) rfl ⟨.inr ⟨fun a b h => ?_, rfl⟩, HB.out⟩
            have := first_space (HN.out ▸ hlt) HC.out hno.out a b h
            have := HN.out
            omega
        · have e1 : decide ((k : Int) < 2) = true := by simp; omega
          go_wp2
          refine bodyPost_ret (lab_results2 resRD _ _ _ _ _ _ _ rfl HX.out) rfl ⟨.inr ⟨fun a b h => ?_, rfl⟩, HB.out⟩
          have := first_space (HN.out ▸ hlt) HC.out hno.out a b h
          omega
      · have h32 : ((((ByteArray.mk t.toArray)[k]'hsz).toNat : Int) != 32) = true := by
          rw [bne_iff_ne]; intro he; apply hc
          have : (t[k]'(by omega)).toNat = 32 := by exact_mod_cast he
          exact UInt8.toNat_inj.1 this
        have HC := Lib.hid hc
        clear hc z0 f0 f1 k1 HX HB
        go_wp2
        go_round
        case rel => exact ⟨k + 1, by omega, by go_num, Lib.hid (fun j hj => by
          by_cases hjk : j = k
          · subst hjk
            rw [List.getElem?_eq_getElem (by rw [HN.out]; exact hlt)]
            exact fun e => HC.out (Option.some.inj e)
          · exact hno.out j (by omega))⟩
        case measure => simp [intOf]; omega
    · obtain rfl : k = n := by omega
      go_wp2
      exact bodyPost_ret (lab_results2 resRD _ _ _ _ _ _ _ rfl HX.out) rfl ⟨.inr ⟨no_space (fun j hj => hno.out j (HN.out ▸ hj)), rfl⟩, HB.out⟩
end Go.Proofs.YtegjlgdbipfpaaaGreatDoor
