/-
  What the listed variables hold ('Laid'), how it is handed on, and the walks of bits.TrailingZeros64 and word.Low.
-/
import Derived.Test.YtegjlgdbipfpaaaGreatDoorSetA
import Derived.Below
namespace Go.Proofs.YtegjlgdbipfpaaaGreatDoor
open Go Go.RowKit

/-- What the walks read of the package-level variables. -/
structure Laid (w : World) : Prop where
  tab : TabAt 3 Lib.deBruijn64tab w
  eS : ∃ te pe, w.cell? ⟨4, 0, none⟩ = some (.iface te pe)
  eR : ∃ te pe, w.cell? ⟨5, 0, none⟩ = some (.iface te pe)
  mx : ∃ m, w.cell? ⟨0, 0, none⟩ = some (.int .i64 m)

theorem cell_below {w w' : World} (hb : Below w.heap.size w w') {a : Addr} {v : Value} (h : w.cell? a = some v) : w'.cell? a = some v :=
  (hb.cell (World.block_lt_of_cell? w a h)).trans h

theorem Laid.below {w w' : World} (h : Laid w) (hb : Below w.heap.size w w') : Laid w' := by
  obtain ⟨a, ⟨s, s', hs⟩, ⟨r, r', hr⟩, ⟨m, hm⟩⟩ := h
  exact ⟨fun j hj => cell_below hb (a j hj), ⟨s, s', cell_below hb hs⟩, ⟨r, r', cell_below hb hr⟩, ⟨m, cell_below hb hm⟩⟩

theorem tz64_core (x k idx : Nat) (w : World) (hx0 : ((x : Int) == 0) = false)
    (key : IntKind.u64.wrap (bits BinOp.and IntKind.u64 (x : Int) (IntKind.u64.wrap (-(x : Int))) * 285870213051353865) / 288230376151711744 = (idx : Int))
    (hi : idx < 64) (hk : k < 64) (hcell : w.cell? ⟨3, idx, none⟩ = some (.int .u8 k)) :
    Calls Tryz.prog 87 #[.int .u64 x] w fun e w' => e = .returned (.int .i64 k) ∧ w = w' := by
  go_enter Tryz.func87, Tryz.ntmps87
  go_wp2_with (simp only [key])
  go_ret
  exact ⟨rfl, rfl⟩

theorem low_any (s : BitVec 64) (hs : s ≠ 0#64) (w : World) (hl : Laid w) :
    Calls Tryz.prog 78 #[U s] w fun e w' => e = .returned (.int .i64 (low s)) ∧ w = w' := by
  have hne : s.toNat ≠ 0 := fun e => hs (BitVec.eq_of_toNat_eq (by simpa using e))
  obtain ⟨hlow, hk⟩ := Lib.lowest_bit 64 s.toNat hne s.isLt
  obtain ⟨hi, htab⟩ := Lib.deBruijn64_at _ hk
  have hx0 : ((s.toNat : Int) == 0) = false := by rw [beq_eq_false_iff_ne]; omega
  have key := tz64_key s.toNat _ s.isLt hne hlow
  have hc := hl.tab _ hi
  rw [htab] at hc
  have H := tz64_core s.toNat _ _ w hx0 key (by simpa using hi) hk hc
  clear hc key hx0 htab hi hlow hk hl
  have e : low s = Lib.ctz 64 s.toNat := rfl
  rw [e]
  clear e
  go_enter Tryz.func78, Tryz.ntmps78
  go_wp2_with (go_at_call 87; refine H.mono ?_; rintro e w' ⟨rfl, rfl⟩)
  go_ret
  exact ⟨rfl, rfl⟩
end Go.Proofs.YtegjlgdbipfpaaaGreatDoor
