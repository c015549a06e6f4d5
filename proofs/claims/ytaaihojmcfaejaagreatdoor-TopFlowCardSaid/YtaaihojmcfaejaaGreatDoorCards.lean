/-
  DERIVED. GIVEN WITH THE SEED: THE CARDS: each row of YtaaihojmcfaejaaGreatDoorRows.lean that lists a variable, with what it lists TIED to the program's text (the seventh form; the later family's looks); each row that meets fmt, with fmt's text TOLD by the authors' own Lean function (tested against real Go, not proved from fmt's source: count such statements apart). THE CARD IS WHAT COUNTS. Prove the row's statement (the work); the ties are given (YtaaihojmcfaejaaGreatDoorTie.lean); close each card by the builder's one call (the guide's Derived/Test/ToyasCard.lean, 'card_holds'). Laid BY PROGRAM, IN A SANDBOX (cutbox-door.mjs). By AI agents, Wed Nov 11 2026. No macro, syntax, notation, axiom, sorry.
-/
import Derived.Test.YtaaihojmcfaejaaGreatDoorRows
import GoSem.ClaimSeven
namespace Go.Proofs.YtaaihojmcfaejaaGreatDoor
namespace Rows

/-- THE TIED CARD OF 'concordattop.TopErrors'. -/
def topErrorsCard : Claim7 := { stood := { row := topErrorsRow, standIns := [], harness := (true, "e88fd3d1e7417beca668d7666a0c180f980e3c1fd7e150a758e01520e3a2be69"), looks := true }, kinds := [], alts := [], laidByText := true, laidKinds := [.data, .data, .data], laidTests := true, laidLooks := .later }
def TopErrorsCardSaid : Prop := Claim7.holds Tryz.pinned (.plain (OpenSpec.ofChange topErrorsSpec)) topErrorsCard

/-- THE TIED CARD OF 'concordattop.TopFlow'. -/
def topFlowCard : Claim7 := { stood := { row := topFlowRow, standIns := [], harness := (true, "e88fd3d1e7417beca668d7666a0c180f980e3c1fd7e150a758e01520e3a2be69"), looks := true }, kinds := [], alts := [], laidByText := true, laidKinds := [.data, .data, .data], laidTests := true, laidLooks := .later }
def TopFlowCardSaid : Prop := Claim7.holds Tryz.pinned (.plain (OpenSpec.ofChange topFlowSpec)) topFlowCard

/-- THE TIED CARD OF 'concordattop.TopInvisible'. -/
def topInvisibleCard : Claim7 := { stood := { row := topInvisibleRow, standIns := [], harness := (true, "e88fd3d1e7417beca668d7666a0c180f980e3c1fd7e150a758e01520e3a2be69"), looks := true }, kinds := [], alts := [], laidByText := true, laidKinds := [.data, .data, .data], laidTests := true, laidLooks := .later }
def TopInvisibleCardSaid : Prop := Claim7.holds Tryz.pinned (.plain (OpenSpec.ofChange topInvisibleSpec)) topInvisibleCard

/-- THE SECOND FORM's CARD OF 'concordattop.TopErrors'. -/
def topErrorsUptoCard : Claim7 := { stood := { row := topErrorsUptoRow, standIns := [], harness := (true, "e88fd3d1e7417beca668d7666a0c180f980e3c1fd7e150a758e01520e3a2be69"), looks := true }, kinds := [], alts := [], laidByText := true, laidKinds := [.data, .data, .data], laidTests := true, laidLooks := .later }
def TopErrorsUptoCardSaid : Prop := Claim7.holds Tryz.pinned (.plain (OpenSpec.upto topErrorsSpec)) topErrorsUptoCard

/-- THE SECOND FORM's CARD OF 'concordattop.TopFlow'. -/
def topFlowUptoCard : Claim7 := { stood := { row := topFlowUptoRow, standIns := [], harness := (true, "e88fd3d1e7417beca668d7666a0c180f980e3c1fd7e150a758e01520e3a2be69"), looks := true }, kinds := [], alts := [], laidByText := true, laidKinds := [.data, .data, .data], laidTests := true, laidLooks := .later }
def TopFlowUptoCardSaid : Prop := Claim7.holds Tryz.pinned (.plain (OpenSpec.upto topFlowSpec)) topFlowUptoCard

/-- THE SECOND FORM's CARD OF 'concordattop.TopInvisible'. -/
def topInvisibleUptoCard : Claim7 := { stood := { row := topInvisibleUptoRow, standIns := [], harness := (true, "e88fd3d1e7417beca668d7666a0c180f980e3c1fd7e150a758e01520e3a2be69"), looks := true }, kinds := [], alts := [], laidByText := true, laidKinds := [.data, .data, .data], laidTests := true, laidLooks := .later }
def TopInvisibleUptoCardSaid : Prop := Claim7.holds Tryz.pinned (.plain (OpenSpec.upto topInvisibleSpec)) topInvisibleUptoCard
end Rows
end Go.Proofs.YtaaihojmcfaejaaGreatDoor
