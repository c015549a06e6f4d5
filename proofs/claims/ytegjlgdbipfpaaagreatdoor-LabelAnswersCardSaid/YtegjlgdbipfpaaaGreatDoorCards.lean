/-
  DERIVED. GIVEN WITH THE SEED: THE CARDS: each row of YtegjlgdbipfpaaaGreatDoorRows.lean that lists a variable, with what it lists TIED to the program's text (the seventh form; the later family's looks); each row that meets fmt, with fmt's text TOLD by the authors' own Lean function (tested against real Go, not proved from fmt's source: count such statements apart). THE CARD IS WHAT COUNTS. Prove the row's statement (the work); the ties are given (YtegjlgdbipfpaaaGreatDoorTie.lean); close each card by the builder's one call (the guide's Derived/Test/ToyasCard.lean, 'card_holds'). Laid BY PROGRAM, IN A SANDBOX (cutbox-door.mjs). By AI agents, Wed Nov 11 2026. No macro, syntax, notation, axiom, sorry.
-/
import Derived.Test.YtegjlgdbipfpaaaGreatDoorRows
import GoSem.ClaimSeven
namespace Go.Proofs.YtegjlgdbipfpaaaGreatDoor
namespace Rows

/-- THE TIED CARD OF 'concordatlaw07.LabelAnswers'. -/
def labelAnswersCard : Claim7 := { stood := { row := labelAnswersRow, standIns := [], harness := (true, "18e372fcc4740fd5df8c05412777f656abc85e165b86532f5eb9fc507dbe6f48"), looks := true }, kinds := [], alts := [], laidByText := true, laidKinds := [.data, .data, .data, .data, .sentinel, .sentinel, .pinned], laidTests := true, laidLooks := .later }
def LabelAnswersCardSaid : Prop := Claim7.holds Tryz.pinned (.plain (OpenSpec.ofChange labelAnswersSpec)) labelAnswersCard

/-- THE SECOND FORM's CARD OF 'concordatlaw07.LabelAnswers'. -/
def labelAnswersUptoCard : Claim7 := { stood := { row := labelAnswersUptoRow, standIns := [], harness := (true, "18e372fcc4740fd5df8c05412777f656abc85e165b86532f5eb9fc507dbe6f48"), looks := true }, kinds := [], alts := [], laidByText := true, laidKinds := [.data, .data, .data, .data, .sentinel, .sentinel, .pinned], laidTests := true, laidLooks := .later }
def LabelAnswersUptoCardSaid : Prop := Claim7.holds Tryz.pinned (.plain (OpenSpec.upto labelAnswersSpec)) labelAnswersUptoCard
end Rows
end Go.Proofs.YtegjlgdbipfpaaaGreatDoor
