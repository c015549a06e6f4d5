/-
  set.Read.
-/
import Derived.Test.YtegjlgdbipfpaaaGreatDoorSplit
import Derived.Shelf.RegionOpen
namespace Go.Proofs.YtegjlgdbipfpaaaGreatDoor
open Go Go.RowKit Go.Shelf
attribute [local go_sem] Oper.semAt_some wide_fn wide_depth

theorem numRes_cat {l : List UInt8} (h : (numRes l).2 = true) : 0 ≤ (numRes l).1 ∧ (numRes l).1 < 64 := by
  unfold numRes at h ⊢
  split at h
  · simp only [isCat, Bool.and_eq_true, decide_eq_true_eq] at h ⊢; exact h
  · simp at h
  · simp at h
theorem stretch_cat {l : List UInt8} (h : (stretchRes l).2.2 = true) : (0 ≤ (stretchRes l).1 ∧ (stretchRes l).1 < 64) ∧ (0 ≤ (stretchRes l).2.1 ∧ (stretchRes l).2.1 < 64) := by
  unfold stretchRes at h ⊢
  split
  · rename_i hc
    rw [if_pos hc] at h
    exact ⟨numRes_cat h, numRes_cat h⟩
  · rename_i hc
    rw [if_neg hc] at h
    simp only [Bool.or_eq_true, Bool.not_eq_true', not_or, Bool.not_eq_false] at hc
    simp only [Bool.and_eq_true] at h
    exact ⟨numRes_cat hc.2, numRes_cat h.1⟩

/-- The set of the stretches that some texts are. -/
def readBits (ps : List (List UInt8)) : BitVec 64 := ps.foldl (fun s p => s ||| spanBits (stretchRes p).1.toNat (stretchRes p).2.1.toNat) 0#64
theorem readBits_snoc (ps : List (List UInt8)) (p : List UInt8) : readBits (ps ++ [p]) = readBits ps ||| spanBits (stretchRes p).1.toNat (stretchRes p).2.1.toNat := by simp [readBits]
def okAll (ps : List (List UInt8)) : Bool := ps.all fun p => (stretchRes p).2.2
def noneText : List UInt8 := [110, 111, 110, 101]

theorem parts_mem_len (t : List UInt8) : ∀ p ∈ parts t, p.length ≤ t.length := by
  induction t with
  | nil => intro p h; simp [parts] at h; simp [h]
  | cons c l ih =>
    intro p h
    by_cases e : c = 44
    · simp only [parts, e, if_pos, List.mem_cons] at h
      rcases h with rfl | h
      · simp
      · have := ih p h; simp; omega
    · simp only [parts, if_neg e] at h
      cases hp : parts l with
      | nil => rw [hp] at h; simp at h; subst h; simp
      | cons q r =>
        rw [hp] at h ih
        simp only [List.mem_cons] at h
        rcases h with rfl | h
        · have := ih q (by simp); simp; omega
        · have := ih p (by simp [h]); simp; omega

theorem box_later {W W' : World} {B : Nat} {t : TypeId} {v : Value} (hb : Below W.heap.size W W') (h : Boxed W B t v) : Boxed W' B t v := (hb.block B h.lt).trans h
theorem keepsOthers_of_below {W W' : World} (h : Below W.heap.size W W') : KeepsOthers W W' :=
  ⟨h.size, fun k _ hk _ => (h.block k (Array.getElem?_eq_some_iff.1 hk).1).trans hk⟩

set_option maxRecDepth 100000 in
set_option maxHeartbeats 2000000 in
/-- The way through the loop: at a text that is not the empty set's. -/
theorem read_in (n : Nat) (hn : 3 ≤ n) (t : List UInt8) (ht : t.length ≤ 4294967280) (hne : t ≠ noneText) (w : World) (hg : gTop ≤ w.heap.size) (hl : Laid w) :
    CallsIn Fence.wide n Tryz.prog 28 #[Str t] w fun e w' =>
      Below w.heap.size w w' ∧ ((okAll (parts t) = true ∧ showL (readBits (parts t)) = t ∧ e = .returned (.tuple #[U (readBits (parts t)), .bool true])) ∨
        (¬ (okAll (parts t) = true ∧ showL (readBits (parts t)) = t) ∧ e = .returned (.tuple #[U 0#64, .bool false]))) := by
  have h1 : 1 ≤ n := by omega
  have hneb : (t == [110, 111, 110, 101]) = false := by rw [beq_eq_false_iff_ne]; exact hne
  refine callsIn_of_wp_marks Tryz.func28 rfl trivial ?_ rfl
  simp only [Tryz.ntmps28, List.size_toArray, List.length_cons, List.length_nil, Nat.reduceAdd, Nat.reduceSub, Array.replicate_succ, Array.replicate_zero, List.push_toArray, List.append_toArray, List.nil_append, List.cons_append]
  have hsp := SplitSeq_any t (((w.alloc (.cells #[.int .u64 0] 22)).alloc (.cells #[.bool false] 4)).alloc (.cells #[.int .u64 0] 22))
  simp only [World.size_alloc] at hsp
  gi_wp2_with fail
  refine (callsIn_wide.2 hsp).mono ?_
  rintro e w' ⟨rfl, rfl⟩
  clear hsp
  have q0 := Boxed.new w 22 (.int .u64 0)
  have q1 := Boxed.new (w.alloc (.cells #[.int .u64 0] 22)) 4 (.bool false)
  have q2 := Boxed.new ((w.alloc (.cells #[.int .u64 0] 22)).alloc (.cells #[.bool false] 4)) 22 (.int .u64 0)
  have q3 := Boxed.new (((w.alloc (.cells #[.int .u64 0] 22)).alloc (.cells #[.bool false] 4)).alloc (.cells #[.int .u64 0] 22)) 9 (Str t)
  have q4 := Boxed.new ((((w.alloc (.cells #[.int .u64 0] 22)).alloc (.cells #[.bool false] 4)).alloc (.cells #[.int .u64 0] 22)).alloc (.cells #[Str t] 9)) 9 (Str [44])
  have q5 := Boxed.new (((((w.alloc (.cells #[.int .u64 0] 22)).alloc (.cells #[.bool false] 4)).alloc (.cells #[.int .u64 0] 22)).alloc (.cells #[Str t] 9)).alloc (.cells #[Str [44]] 9)) 3 (.int .i64 0)
  simp only [World.size_alloc] at q1 q2 q3 q4 q5
  have hB0 : Below w.heap.size w ((((((w.alloc (.cells #[.int .u64 0] 22)).alloc (.cells #[.bool false] 4)).alloc (.cells #[.int .u64 0] 22)).alloc (.cells #[Str t] 9)).alloc (.cells #[Str [44]] 9)).alloc (.cells #[.int .i64 0] 3)) :=
    ((((((Below.refl _ w).alloc (Nat.le_refl _) _).alloc (by simp) _).alloc (by simp; omega) _).alloc (by simp; omega) _).alloc (by simp; omega) _).alloc (by simp; omega) _
  have r0 := ((((q0.alloc (.cells #[.bool false] 4)).alloc (.cells #[.int .u64 0] 22)).alloc (.cells #[Str t] 9)).alloc (.cells #[Str [44]] 9)).alloc (.cells #[.int .i64 0] 3)
  have r1 := (((q1.alloc (.cells #[.int .u64 0] 22)).alloc (.cells #[Str t] 9)).alloc (.cells #[Str [44]] 9)).alloc (.cells #[.int .i64 0] 3)
  have r2 := ((q2.alloc (.cells #[Str t] 9)).alloc (.cells #[Str [44]] 9)).alloc (.cells #[.int .i64 0] 3)
  have r3 := (q3.alloc (.cells #[Str [44]] 9)).alloc (.cells #[.int .i64 0] 3)
  have r4 := q4.alloc (.cells #[.int .i64 0] 3)
  clear q0 q1 q2 q3 q4
  obtain ⟨W0, hW0⟩ : ∃ W0, ((((((w.alloc (.cells #[.int .u64 0] 22)).alloc (.cells #[.bool false] 4)).alloc (.cells #[.int .u64 0] 22)).alloc (.cells #[Str t] 9)).alloc (.cells #[Str [44]] 9)).alloc (.cells #[.int .i64 0] 3)) = W0 := ⟨_, rfl⟩
  have hsz : W0.heap.size = w.heap.size + 6 := by rw [← hW0]; simp
  rw [hW0] at r0 r1 r2 r3 r4 q5 hB0
  gi_wp2_with fail
  clear hW0
  refine wpIn_rangeB rfl h1 (gf := 72) (lb := #[.pointer (some ⟨w.heap.size + 1 + 1 + 1 + 1, 0, none⟩), .pointer (some ⟨w.heap.size + 1 + 1 + 1, 0, none⟩), .pointer (some ⟨w.heap.size + 1 + 1 + 1 + 2, 0, none⟩)]) rfl trivial (enters_of Tryz.func72 (by kernel_rfl) rfl)
    (n0 := w.heap.size) (split_seq (n - 1) (w.heap.size + 1 + 1 + 1) w.heap.size t (by omega)) (by omega) (by omega) (by omega) (fun h k => h.trans k) ?put ?pre (fun _ => rfl)
    (fun pre W => (Boxed W w.heap.size 22 (.int .u64 0) ∧ Boxed W (w.heap.size + 1) 4 (.bool false) ∧ Boxed W (w.heap.size + 1 + 1) 22 (U (readBits pre)) ∧ okAll pre = true) ∧ Below w.heap.size w W)
    (fun c pre W => (c = Code.ret ∧ Boxed W w.heap.size 22 (.int .u64 0) ∧ Boxed W (w.heap.size + 1) 4 (.bool false) ∧ okAll (parts t) = false) ∧ Below w.heap.size w W) (Abide.conj ?abide (abide_below (Nat.le_refl _))) (fun _ => Abide.conj ?abidex (abide_below (Nat.le_refl _)))
    ⟨⟨r0, r1, r2, rfl⟩, hB0⟩
    (fun x => { tmps := #[Str t, undef, .pointer (some ⟨w.heap.size, 0, none⟩), .pointer (some ⟨w.heap.size + 1, 0, none⟩), .pointer (some ⟨w.heap.size + 1 + 1, 0, none⟩), Str x, undef, undef, Str t, .bool false, Str t, .func (.func 72) #[] #[.pointer (some ⟨w.heap.size + 1 + 1 + 1 + 1, 0, none⟩), .pointer (some ⟨w.heap.size + 1 + 1 + 1, 0, none⟩), .pointer (some ⟨w.heap.size + 1 + 1 + 1 + 2, 0, none⟩)], Str x, undef, undef, undef, undef, undef, undef, undef, undef, undef, undef, undef, undef, undef, undef, undef, undef], defers := [] }) ?assign ?body ?done ?stop
  case put =>
    intro W l o hl1 hl2
    exact ⟨(Keep.refl _ _ _).putObj o (by omega) hl2 (by omega), (Keep.refl _ _ _).putObj o (by omega) hl2 (by omega), (Keep.refl _ _ _).putObj o (by omega) hl2 (by omega)⟩
  case pre =>
    intro o1 o2
    exact ⟨(r3.alloc o1).alloc o2, (r4.alloc o1).alloc o2, (q5.alloc o1).alloc o2⟩
  case abide =>
    rintro pre X Y row ⟨s0, s1, s2, hok⟩ hg' hrow
    exact ⟨boxed_abide (β := Unit) (by omega) (fun _ => _) () X Y row s0 hg' hrow, boxed_abide (β := Unit) (by omega) (fun _ => _) () X Y row s1 hg' hrow, boxed_abide (β := Unit) (by omega) (fun _ => _) () X Y row s2 hg' hrow, hok⟩
  case abidex =>
    rintro pre X Y row ⟨hc, s0, s1, hok⟩ hg' hrow
    exact ⟨hc, boxed_abide (β := Unit) (by omega) (fun _ => _) () X Y row s0 hg' hrow, boxed_abide (β := Unit) (by omega) (fun _ => _) () X Y row s1 hg' hrow, hok⟩
  case assign =>
    intro l x W K hK
    dsimp only [textVal]
    gi_wp2
    exact hK
  case body =>
    rintro l pre x W hszW ⟨⟨s0, s1, s2, hok⟩, hB⟩ hp
    have hmem : x ∈ parts t := by obtain ⟨r, hr⟩ := hp; rw [← hr]; simp
    have hlen := parts_mem_len t x hmem
    clear hp
    have hst := stretch_any ⟨x.toArray⟩ (by simp [ByteArray.size]; omega) W (hl.below hB)
    have hbits := readBits_snoc pre x
    have hall : okAll (pre ++ [x]) = (stretchRes x).2.2 := by simp only [okAll, List.all_append, List.all_cons, List.all_nil, Bool.and_true] at hok ⊢; rw [hok]; rfl
    have hbad : (stretchRes x).2.2 = false → okAll (parts t) = false := fun e => by
      simp only [okAll, List.all_eq_false]; exact ⟨x, hmem, by simp [e]⟩
    have hcat := @stretch_cat x
    have e1 : (ByteArray.mk x.toArray).data.toList = x := rfl
    rw [e1] at hst
    obtain ⟨⟨f, g, ok⟩, hr⟩ : ∃ z, stretchRes x = z := ⟨_, rfl⟩
    rw [hr] at hst hbits hall hbad hcat
    clear hr e1 hmem
    simp only at hst hbits hall hbad hcat
    have HST := Lib.hid hst
    have HBITS := Lib.hid hbits
    have HALL := Lib.hid hall
    have HBAD := Lib.hid hbad
    have HCAT := Lib.hid hcat
    clear hst hbits hall hbad hcat
    have c0 := s0.cell
    have c1 := s1.cell
    have c2 := s2.cell
    have f0 := s0.frozen
    have f1 := s1.frozen
    have f2 := s2.frozen
    gi_wp2_with fail
    refine (CallsIn.inRound l (callsIn_wide.2 HST.out)).mono ?_
    rintro e W2 ⟨rfl, hb2⟩
    have HB2 := Lib.hid hb2
    have hs2 := hb2.size
    have t0 : Boxed W2 _ _ _ := (hb2.block _ s0.lt).trans s0
    have t1 : Boxed W2 _ _ _ := (hb2.block _ s1.lt).trans s1
    have t2 : Boxed W2 _ _ _ := (hb2.block _ s2.lt).trans s2
    clear hb2 c0 c1 c2 f0 f1 f2
    cases ok
    · have hbad := HBAD.out rfl
      have c0 := t0.cell
      have c1 := t1.cell
      have f0 := t0.frozen
      have f1 := t1.frozen
      have l0 := t0.lt
      have l1 := t1.lt
      have k0 := ((t0.set (.int .u64 0)).kept (grownBy_setCell' _ (w.heap.size + 1) (.bool false)) (by simp)).alloc (.cells #[.int .i64 f, .int .i64 g] 61)
      have k1 := ((t1.kept (grownBy_setCell' _ w.heap.size (.int .u64 0)) (by simp)).set (.bool false)).alloc (.cells #[.int .i64 f, .int .i64 g] 61)
      have KO := Lib.hid ((((keepsOthers_of_below HB2.out).trans (KeepsOthers.setCell _ ⟨w.heap.size, 0, none⟩ (.int .u64 0))).trans (KeepsOthers.setCell _ ⟨w.heap.size + 1, 0, none⟩ (.bool false))).trans (KeepsOthers.alloc _ (.cells #[.int .i64 f, .int .i64 g] 61)))
      have KB := Lib.hid ((((hB.trans (HB2.out.mono hB.size)).setCell (p := ⟨w.heap.size, 0, none⟩) (by simp) (.int .u64 0)).setCell (p := ⟨w.heap.size + 1, 0, none⟩) (by simp) (.bool false)).alloc (by have := hB.size; simp; omega) (.cells #[.int .i64 f, .int .i64 g] 61))
      have K0 := Lib.hid k0
      have K1 := Lib.hid k1
      clear k0 k1
      gi_wp2
      exact ⟨KO.out, ⟨rfl, K0.out, K1.out, hbad⟩, KB.out⟩
    · obtain ⟨⟨hf0, hf1⟩, hg0, hg1⟩ := HCAT.out rfl
      obtain ⟨fn, rfl⟩ := Int.eq_ofNat_of_zero_le hf0
      obtain ⟨gn, rfl⟩ := Int.eq_ofNat_of_zero_le hg0
      have c2 := t2.cell
      have f2 := t2.frozen
      have l2 := t2.lt
      have hss := fun W => spanSet_any fn gn (by omega) (by omega) W
      have HSS := Lib.hid hss
      clear hss
      have hmix : Tryz.prog.follows .mixedOrders = true := by kernel_rfl
      gi_wp2
      gi_region_with_o (gi_at_call 47; refine (CallsIn.inRound l (callsIn_wide.2 (HSS.out _))).mono ?_; rintro e w3 ⟨rfl, hb3⟩; have t3 := box_later hb3 (t2.alloc (.cells #[.int .i64 (fn : Int), .int .i64 (gn : Int)] 61)); have c3 := t3.cell; have f3 := t3.frozen)
      all_goals
        gi_wp2
        rw [or_bv]
        have u0 := box_later hb3 (t0.alloc (.cells #[.int .i64 (fn : Int), .int .i64 (gn : Int)] 61))
        have u1 := box_later hb3 (t1.alloc (.cells #[.int .i64 (fn : Int), .int .i64 (gn : Int)] 61))
        have hbW : Below W.heap.size W _ := (((HB2.out.alloc hs2 (.cells #[.int .i64 (fn : Int), .int .i64 (gn : Int)] 61)).drew).trans (hb3.mono (by simp; omega)))
        have KO := (keepsOthers_of_below hbW).trans (KeepsOthers.setCell _ ⟨w.heap.size + 1 + 1, 0, none⟩ (U (readBits pre ||| spanBits fn gn)))
        have KB := (hB.trans (hbW.mono hB.size)).setCell (p := ⟨w.heap.size + 1 + 1, 0, none⟩) (by simp; omega) (U (readBits pre ||| spanBits fn gn))
        have kk : ∀ b, w.heap.size + 1 + 1 < b → b < w.heap.size + 6 → Keep w.heap.size b W _ := fun b h1 h2 => ((Keep.refl w.heap.size b W).of_below hbW hB.size (by omega)).setCell (p := ⟨w.heap.size + 1 + 1, 0, none⟩) (by simp; omega) (by simp; omega) (U (readBits pre ||| spanBits fn gn))
        have v0 := u0.kept (grownBy_setCell' _ (w.heap.size + 1 + 1) (U (readBits pre ||| spanBits fn gn))) (by intro e; injection e with e; omega)
        have v1 := u1.kept (grownBy_setCell' _ (w.heap.size + 1 + 1) (U (readBits pre ||| spanBits fn gn))) (by intro e; injection e with e; omega)
        have v2 := t3.set (U (readBits pre ||| spanBits fn gn))
        refine ⟨KO, ⟨kk _ (by omega) (by omega), kk _ (by omega) (by omega), kk _ (by omega) (by omega)⟩, ⟨v0, v1, ?_, HALL.out⟩, KB⟩
        rw [HBITS.out]
        exact v2
  case done =>
    rintro D ys W hD rfl ⟨⟨s0, s1, s2, hok⟩, hB⟩ hK
    have hDW : D < W.heap.size := (Array.getElem?_eq_some_iff.1 hK).1
    have hsh := show_any (readBits (parts t)) W (Nat.le_trans hg hB.size) (hl.below hB)
    obtain ⟨R, hR⟩ : ∃ R, readBits (parts t) = R := ⟨_, rfl⟩
    rw [hR] at hsh s2
    obtain ⟨sh, hshv⟩ : ∃ sh, showL R = sh := ⟨_, rfl⟩
    rw [hshv] at hsh
    have HSH := Lib.hid hsh
    have HOK := Lib.hid hok
    have HR := Lib.hid hR
    have HSV := Lib.hid hshv
    clear hsh hR hshv hok
    have c2 := s2.cell
    by_cases he : sh = t
    · have heb : (sh == t) = true := by rw [beq_iff_eq]; exact he
      have hen : (sh != t) = false := by rw [bne_eq_false_iff_eq]; exact he
      have HE := Lib.hid he
      clear he
      gi_wp2_with (gi_at_call 41; refine (callsIn_wide.2 HSH.out).mono ?_; rintro e W2 ⟨rfl, hb2⟩; have t0 := box_later hb2 s0; have t1 := box_later hb2 s1; have t2 := box_later hb2 s2; have k0 := t0.cell; have k1 := t1.cell; have k2 := t2.cell; have f0 := t0.frozen; have f1 := t1.frozen)
      have hKf := (((keepsOthers_of_below hb2).trans (KeepsOthers.setCell _ ⟨w.heap.size, 0, none⟩ (U R))).trans (KeepsOthers.setCell _ ⟨w.heap.size + 1, 0, none⟩ (.bool true))).same D _ hK rfl
      have hBf := (((hB.trans (hb2.mono hB.size)).setCell (p := ⟨w.heap.size, 0, none⟩) (by simp) (U R)).setCell (p := ⟨w.heap.size + 1, 0, none⟩) (by simp) (.bool true))
      have z0 := ((t0.set (U R)).kept (grownBy_setCell' _ (w.heap.size + 1) (.bool true)) (by simp)).kept (grownBy_putObj' _ D (.deferred none)) (by intro e; injection e with e; omega)
      have z1 := ((t1.kept (grownBy_setCell' _ w.heap.size (U R)) (by simp)).set (.bool true)).kept (grownBy_putObj' _ D (.deferred none)) (by intro e; injection e with e; omega)
      have y0 := z0.cell
      have y1 := z1.cell
      refine ⟨by simp, .inl ⟨_, _, rfl, run_takeDeferred hKf, ?_⟩⟩
      refine ⟨.tuple #[U R, .bool true], ?_, hBf.grown (grownBy_putObj' _ D _) (by have := hBf.size; exact this) (fun k e => by cases e; omega), ?_⟩
      · simp [results, Tryz.results28, go_sem, y0, y1]
      · exact .inl ⟨HOK.out, by rw [HR.out, HSV.out, HE.out], by rw [HR.out]⟩
    · have heb : (sh == t) = false := by rw [beq_eq_false_iff_ne]; exact he
      have hen : (sh != t) = true := by rw [bne_iff_ne]; exact he
      have HE := Lib.hid he
      clear he
      gi_wp2_with (gi_at_call 41; refine (callsIn_wide.2 HSH.out).mono ?_; rintro e W2 ⟨rfl, hb2⟩; have t0 := box_later hb2 s0; have t1 := box_later hb2 s1; have t2 := box_later hb2 s2; have k0 := t0.cell; have k1 := t1.cell; have k2 := t2.cell; have f0 := t0.frozen; have f1 := t1.frozen)
      have hKf := (((keepsOthers_of_below hb2).trans (KeepsOthers.setCell _ ⟨w.heap.size, 0, none⟩ (.int .u64 0))).trans (KeepsOthers.setCell _ ⟨w.heap.size + 1, 0, none⟩ (.bool false))).same D _ hK rfl
      have hBf := (((hB.trans (hb2.mono hB.size)).setCell (p := ⟨w.heap.size, 0, none⟩) (by simp) (.int .u64 0)).setCell (p := ⟨w.heap.size + 1, 0, none⟩) (by simp) (.bool false))
      have z0 := ((t0.set (.int .u64 0)).kept (grownBy_setCell' _ (w.heap.size + 1) (.bool false)) (by simp)).kept (grownBy_putObj' _ D (.deferred none)) (by intro e; injection e with e; omega)
      have z1 := ((t1.kept (grownBy_setCell' _ w.heap.size (.int .u64 0)) (by simp)).set (.bool false)).kept (grownBy_putObj' _ D (.deferred none)) (by intro e; injection e with e; omega)
      have y0 := z0.cell
      have y1 := z1.cell
      refine ⟨by simp, .inl ⟨_, _, rfl, run_takeDeferred hKf, ?_⟩⟩
      refine ⟨.tuple #[U 0#64, .bool false], ?_, hBf.grown (grownBy_putObj' _ D _) (by have := hBf.size; exact this) (fun k e => by cases e; omega), ?_⟩
      · simp [results, Tryz.results28, go_sem, y0, y1]
      · exact .inr ⟨fun h => HE.out (by rw [← HSV.out, ← HR.out]; exact h.2), rfl⟩
  case stop =>
    rintro D c pre W hD ⟨⟨rfl, s0, s1, hbad⟩, hB⟩ hK
    have hDW : D < W.heap.size := (Array.getElem?_eq_some_iff.1 hK).1
    have z0 := s0.kept (grownBy_putObj' W D (.deferred none)) (by intro e; injection e with e; omega)
    have z1 := s1.kept (grownBy_putObj' W D (.deferred none)) (by intro e; injection e with e; omega)
    have y0 := z0.cell
    have y1 := z1.cell
    gi_wp2
    refine ⟨by simp, .inl ⟨_, _, rfl, run_takeDeferred hK, ?_⟩⟩
    refine ⟨.tuple #[U 0#64, .bool false], ?_, hB.grown (grownBy_putObj' W D _) hB.size (fun k e => by cases e; omega), ?_⟩
    · simp [results, Tryz.results28, go_sem, y0, y1]
    · exact .inr ⟨(fun h => by rw [h.1] at hbad; cases hbad), rfl⟩

theorem read_none (w : World) : Calls Tryz.prog 28 #[Str noneText] w fun e w' => e = .returned (.tuple #[U 0#64, .bool true]) ∧ Below w.heap.size w w' := by
  unfold noneText
  go_enter Tryz.func28, Tryz.ntmps28
  go_wp2
  refine bodyPost_ret (v := .tuple #[U 0#64, .bool true]) ?_ rfl ⟨rfl, ?_⟩
  · simp [results, Tryz.results28, go_sem]
  · exact ((Below.refl _ _).alloc (Nat.le_refl _) _).alloc (by simp) _
end Go.Proofs.YtegjlgdbipfpaaaGreatDoor
