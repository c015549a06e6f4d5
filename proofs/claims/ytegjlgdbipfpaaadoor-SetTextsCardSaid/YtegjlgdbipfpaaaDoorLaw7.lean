/-
  concordatlaw06.SetTexts returns true: its walk.
-/
import Derived.Test.YtegjlgdbipfpaaaDoorAliveA
namespace Go.Proofs.YtegjlgdbipfpaaaDoor
open Go Go.RowKit

theorem texts_long (t : List UInt8) (w : World) (hg : gTop ≤ w.heap.size) (hl : Laid w) (ht : 400 < t.length) (hm : t.length ≤ 9223372036854775807) :
    Calls Tryd.prog 7 #[Str t] w fun e w' => e = .returned (.bool true) ∧ Below w.heap.size w w' := by
  have HAL := Lib.hid (alive_any w hg hl)
  clear hl
  go_enter Tryd.func7, Tryd.ntmps7
  go_wp2_with fail
  refine HAL.out.mono ?_
  rintro e w1 ⟨rfl, hB⟩
  go_wp2
  go_ret
  exact ⟨rfl, hB⟩

set_option maxHeartbeats 400000 in
theorem texts_short (t : List UInt8) (w : World) (hg : gTop ≤ w.heap.size) (hl : Laid w) (ht : t.length ≤ 400) :
    Calls Tryd.prog 7 #[Str t] w fun e w' => e = .returned (.bool true) ∧ Below w.heap.size w w' := by
  have HAL := Lib.hid (alive_any w hg hl)
  have HRD := fun W hg hl => Lib.hid (read_any t (by omega) W hg hl)
  have HL := Lib.hid hl
  have hn : ¬ 400 < t.length := by omega
  have HRD' := Lib.hid HRD
  clear hl HRD
  go_enter Tryd.func7, Tryd.ntmps7
  go_wp2_with fail
  refine HAL.out.mono ?_
  rintro e w1 ⟨rfl, hB⟩
  go_wp2_with fail
  refine (HRD'.out w1 (Nat.le_trans hg hB.size) (HL.out.below hB)).out.mono ?_
  rintro e w2 ⟨hb2, ⟨s, hs, rfl⟩ | ⟨hs, rfl⟩⟩
  · have hB2 := hB.trans (hb2.mono hB.size)
    have hsh := show_any s w2 (Nat.le_trans hg hB2.size) (HL.out.below hB2)
    rw [hs] at hsh
    have HSH := Lib.hid hsh
    clear hsh hs hb2
    go_wp2_with fail
    refine HSH.out.mono ?_
    rintro e w3 ⟨rfl, hb3⟩
    have hB3 := hB2.trans (hb3.mono hB2.size)
    clear hb3
    go_wp2
    go_ret
    exact ⟨rfl, hB3⟩
  · have hB2 := hB.trans (hb2.mono hB.size)
    clear hs hb2
    go_wp2
    go_ret
    exact ⟨rfl, hB2⟩

theorem texts_any (t : List UInt8) (w : World) (hg : gTop ≤ w.heap.size) (hl : Laid w) (hm : t.length ≤ 9223372036854775807) :
    Calls Tryd.prog 7 #[Str t] w fun e w' => e = .returned (.bool true) ∧ Below w.heap.size w w' := by
  by_cases h : t.length ≤ 400
  · exact texts_short t w hg hl h
  · exact texts_long t w hg hl (by omega) hm
end Go.Proofs.YtegjlgdbipfpaaaDoor
