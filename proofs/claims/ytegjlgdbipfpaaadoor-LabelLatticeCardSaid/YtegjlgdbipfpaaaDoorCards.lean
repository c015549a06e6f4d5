/-
  DERIVED. GIVEN WITH THE SEED: THE CARDS: each row of YtegjlgdbipfpaaaDoorRows.lean that lists a variable, with what it lists TIED to the program's text (the seventh form; the later family's looks); each row that meets fmt, with fmt's text TOLD by the authors' own Lean function (tested against real Go, not proved from fmt's source: count such statements apart). THE CARD IS WHAT COUNTS. Prove the row's statement (the work); the ties are given (YtegjlgdbipfpaaaDoorTie.lean); close each card by the builder's one call (the guide's Derived/Test/ToyasCard.lean, 'card_holds'). Laid BY PROGRAM, IN A SANDBOX (cutbox-door.mjs). By AI agents, Wed Nov 11 2026. No macro, syntax, notation, axiom, sorry.
-/
import Derived.Test.YtegjlgdbipfpaaaDoorRows
import GoSem.ClaimSeven
namespace Go.Proofs.YtegjlgdbipfpaaaDoor
namespace Rows

/-- THE TIED CARD OF 'concordatlaw06.SetAnswers'. -/
def setAnswersCard : Claim7 := { stood := { row := setAnswersRow, standIns := [], harness := (true, "73595ff8e6f0be8493e5b30b36e3c2a77f0b0aa09fdabda227c6cb6576710c71"), looks := true }, kinds := [], alts := [], laidByText := true, laidKinds := [.data, .data, .data, .data, .sentinel, .sentinel, .pinned], laidTests := true, laidLooks := .later }
def SetAnswersCardSaid : Prop := Claim7.holds Tryd.pinned (.plain (OpenSpec.ofChange setAnswersSpec)) setAnswersCard

/-- THE TIED CARD OF 'concordatlaw06.SetBack'. -/
def setBackCard : Claim7 := { stood := { row := setBackRow, standIns := [], harness := (true, "73595ff8e6f0be8493e5b30b36e3c2a77f0b0aa09fdabda227c6cb6576710c71"), looks := true }, kinds := [], alts := [], laidByText := true, laidKinds := [.data, .data, .data, .data, .sentinel, .sentinel, .pinned], laidTests := true, laidLooks := .later }
def SetBackCardSaid : Prop := Claim7.holds Tryd.pinned (.plain (OpenSpec.ofChange setBackSpec)) setBackCard

/-- THE TIED CARD OF 'concordatlaw06.SetOrder'. -/
def setOrderCard : Claim7 := { stood := { row := setOrderRow, standIns := [], harness := (true, "73595ff8e6f0be8493e5b30b36e3c2a77f0b0aa09fdabda227c6cb6576710c71"), looks := true }, kinds := [], alts := [], laidByText := true, laidKinds := [.data, .data, .data, .data, .sentinel, .sentinel, .pinned], laidTests := true, laidLooks := .later }
def SetOrderCardSaid : Prop := Claim7.holds Tryd.pinned (.plain (OpenSpec.ofChange setOrderSpec)) setOrderCard

/-- THE TIED CARD OF 'concordatlaw06.SetPool'. -/
def setPoolCard : Claim7 := { stood := { row := setPoolRow, standIns := [], harness := (true, "73595ff8e6f0be8493e5b30b36e3c2a77f0b0aa09fdabda227c6cb6576710c71"), looks := true }, kinds := [], alts := [], laidByText := true, laidKinds := [.data, .data, .data, .data, .sentinel, .sentinel, .pinned], laidTests := true, laidLooks := .later }
def SetPoolCardSaid : Prop := Claim7.holds Tryd.pinned (.plain (OpenSpec.ofChange setPoolSpec)) setPoolCard

/-- THE TIED CARD OF 'concordatlaw06.SetTexts'. -/
def setTextsCard : Claim7 := { stood := { row := setTextsRow, standIns := [], harness := (true, "73595ff8e6f0be8493e5b30b36e3c2a77f0b0aa09fdabda227c6cb6576710c71"), looks := true }, kinds := [], alts := [], laidByText := true, laidKinds := [.data, .data, .data, .data, .sentinel, .sentinel, .pinned], laidTests := true, laidLooks := .later }
def SetTextsCardSaid : Prop := Claim7.holds Tryd.pinned (.plain (OpenSpec.ofChange setTextsSpec)) setTextsCard

/-- THE TIED CARD OF 'concordatlaw06.SetLists'. -/
def setListsCard : Claim7 := { stood := { row := setListsRow, standIns := [], harness := (true, "73595ff8e6f0be8493e5b30b36e3c2a77f0b0aa09fdabda227c6cb6576710c71"), looks := true }, kinds := [], alts := [], laidByText := true, laidKinds := [.data, .data, .data, .data, .sentinel, .sentinel, .pinned], laidTests := true, laidLooks := .later }
def SetListsCardSaid : Prop := Claim7.holds Tryd.pinned (.plain (OpenSpec.ofChange setListsSpec)) setListsCard

/-- THE TIED CARD OF 'concordatlaw07.LabelOrder'. -/
def labelOrderCard : Claim7 := { stood := { row := labelOrderRow, standIns := [], harness := (true, "73595ff8e6f0be8493e5b30b36e3c2a77f0b0aa09fdabda227c6cb6576710c71"), looks := true }, kinds := [], alts := [], laidByText := true, laidKinds := [.data, .data, .data, .data, .sentinel, .sentinel, .pinned], laidTests := true, laidLooks := .later }
def LabelOrderCardSaid : Prop := Claim7.holds Tryd.pinned (.plain (OpenSpec.ofChange labelOrderSpec)) labelOrderCard

/-- THE TIED CARD OF 'concordatlaw07.LabelLattice'. -/
def labelLatticeCard : Claim7 := { stood := { row := labelLatticeRow, standIns := [], harness := (true, "73595ff8e6f0be8493e5b30b36e3c2a77f0b0aa09fdabda227c6cb6576710c71"), looks := true }, kinds := [], alts := [], laidByText := true, laidKinds := [.data, .data, .data, .data, .sentinel, .sentinel, .pinned], laidTests := true, laidLooks := .later }
def LabelLatticeCardSaid : Prop := Claim7.holds Tryd.pinned (.plain (OpenSpec.ofChange labelLatticeSpec)) labelLatticeCard

/-- THE TIED CARD OF 'concordatlaw07.LabelNeeds'. -/
def labelNeedsCard : Claim7 := { stood := { row := labelNeedsRow, standIns := [], harness := (true, "73595ff8e6f0be8493e5b30b36e3c2a77f0b0aa09fdabda227c6cb6576710c71"), looks := true }, kinds := [], alts := [], laidByText := true, laidKinds := [.data, .data, .data, .data, .sentinel, .sentinel, .pinned], laidTests := true, laidLooks := .later }
def LabelNeedsCardSaid : Prop := Claim7.holds Tryd.pinned (.plain (OpenSpec.ofChange labelNeedsSpec)) labelNeedsCard

/-- THE TIED CARD OF 'concordatlaw07.LabelRaises'. -/
def labelRaisesCard : Claim7 := { stood := { row := labelRaisesRow, standIns := [], harness := (true, "73595ff8e6f0be8493e5b30b36e3c2a77f0b0aa09fdabda227c6cb6576710c71"), looks := true }, kinds := [], alts := [], laidByText := true, laidKinds := [.data, .data, .data, .data, .sentinel, .sentinel, .pinned], laidTests := true, laidLooks := .later }
def LabelRaisesCardSaid : Prop := Claim7.holds Tryd.pinned (.plain (OpenSpec.ofChange labelRaisesSpec)) labelRaisesCard

/-- THE TIED CARD OF 'concordatlaw07.LabelBack'. -/
def labelBackCard : Claim7 := { stood := { row := labelBackRow, standIns := [], harness := (true, "73595ff8e6f0be8493e5b30b36e3c2a77f0b0aa09fdabda227c6cb6576710c71"), looks := true }, kinds := [], alts := [], laidByText := true, laidKinds := [.data, .data, .data, .data, .sentinel, .sentinel, .pinned], laidTests := true, laidLooks := .later }
def LabelBackCardSaid : Prop := Claim7.holds Tryd.pinned (.plain (OpenSpec.ofChange labelBackSpec)) labelBackCard

/-- THE TIED CARD OF 'concordatlaw07.LabelJoins'. -/
def labelJoinsCard : Claim7 := { stood := { row := labelJoinsRow, standIns := [], harness := (true, "73595ff8e6f0be8493e5b30b36e3c2a77f0b0aa09fdabda227c6cb6576710c71"), looks := true }, kinds := [], alts := [], laidByText := true, laidKinds := [.data, .data, .data, .data, .sentinel, .sentinel, .pinned], laidTests := true, laidLooks := .later }
def LabelJoinsCardSaid : Prop := Claim7.holds Tryd.pinned (.plain (OpenSpec.ofChange labelJoinsSpec)) labelJoinsCard

/-- THE SECOND FORM's CARD OF 'concordatlaw06.SetAnswers'. -/
def setAnswersUptoCard : Claim7 := { stood := { row := setAnswersUptoRow, standIns := [], harness := (true, "73595ff8e6f0be8493e5b30b36e3c2a77f0b0aa09fdabda227c6cb6576710c71"), looks := true }, kinds := [], alts := [], laidByText := true, laidKinds := [.data, .data, .data, .data, .sentinel, .sentinel, .pinned], laidTests := true, laidLooks := .later }
def SetAnswersUptoCardSaid : Prop := Claim7.holds Tryd.pinned (.plain (OpenSpec.upto setAnswersSpec)) setAnswersUptoCard

/-- THE SECOND FORM's CARD OF 'concordatlaw06.SetBack'. -/
def setBackUptoCard : Claim7 := { stood := { row := setBackUptoRow, standIns := [], harness := (true, "73595ff8e6f0be8493e5b30b36e3c2a77f0b0aa09fdabda227c6cb6576710c71"), looks := true }, kinds := [], alts := [], laidByText := true, laidKinds := [.data, .data, .data, .data, .sentinel, .sentinel, .pinned], laidTests := true, laidLooks := .later }
def SetBackUptoCardSaid : Prop := Claim7.holds Tryd.pinned (.plain (OpenSpec.upto setBackSpec)) setBackUptoCard

/-- THE SECOND FORM's CARD OF 'concordatlaw06.SetOrder'. -/
def setOrderUptoCard : Claim7 := { stood := { row := setOrderUptoRow, standIns := [], harness := (true, "73595ff8e6f0be8493e5b30b36e3c2a77f0b0aa09fdabda227c6cb6576710c71"), looks := true }, kinds := [], alts := [], laidByText := true, laidKinds := [.data, .data, .data, .data, .sentinel, .sentinel, .pinned], laidTests := true, laidLooks := .later }
def SetOrderUptoCardSaid : Prop := Claim7.holds Tryd.pinned (.plain (OpenSpec.upto setOrderSpec)) setOrderUptoCard

/-- THE SECOND FORM's CARD OF 'concordatlaw06.SetPool'. -/
def setPoolUptoCard : Claim7 := { stood := { row := setPoolUptoRow, standIns := [], harness := (true, "73595ff8e6f0be8493e5b30b36e3c2a77f0b0aa09fdabda227c6cb6576710c71"), looks := true }, kinds := [], alts := [], laidByText := true, laidKinds := [.data, .data, .data, .data, .sentinel, .sentinel, .pinned], laidTests := true, laidLooks := .later }
def SetPoolUptoCardSaid : Prop := Claim7.holds Tryd.pinned (.plain (OpenSpec.upto setPoolSpec)) setPoolUptoCard

/-- THE SECOND FORM's CARD OF 'concordatlaw06.SetTexts'. -/
def setTextsUptoCard : Claim7 := { stood := { row := setTextsUptoRow, standIns := [], harness := (true, "73595ff8e6f0be8493e5b30b36e3c2a77f0b0aa09fdabda227c6cb6576710c71"), looks := true }, kinds := [], alts := [], laidByText := true, laidKinds := [.data, .data, .data, .data, .sentinel, .sentinel, .pinned], laidTests := true, laidLooks := .later }
def SetTextsUptoCardSaid : Prop := Claim7.holds Tryd.pinned (.plain (OpenSpec.upto setTextsSpec)) setTextsUptoCard

/-- THE SECOND FORM's CARD OF 'concordatlaw06.SetLists'. -/
def setListsUptoCard : Claim7 := { stood := { row := setListsUptoRow, standIns := [], harness := (true, "73595ff8e6f0be8493e5b30b36e3c2a77f0b0aa09fdabda227c6cb6576710c71"), looks := true }, kinds := [], alts := [], laidByText := true, laidKinds := [.data, .data, .data, .data, .sentinel, .sentinel, .pinned], laidTests := true, laidLooks := .later }
def SetListsUptoCardSaid : Prop := Claim7.holds Tryd.pinned (.plain (OpenSpec.upto setListsSpec)) setListsUptoCard

/-- THE SECOND FORM's CARD OF 'concordatlaw07.LabelOrder'. -/
def labelOrderUptoCard : Claim7 := { stood := { row := labelOrderUptoRow, standIns := [], harness := (true, "73595ff8e6f0be8493e5b30b36e3c2a77f0b0aa09fdabda227c6cb6576710c71"), looks := true }, kinds := [], alts := [], laidByText := true, laidKinds := [.data, .data, .data, .data, .sentinel, .sentinel, .pinned], laidTests := true, laidLooks := .later }
def LabelOrderUptoCardSaid : Prop := Claim7.holds Tryd.pinned (.plain (OpenSpec.upto labelOrderSpec)) labelOrderUptoCard

/-- THE SECOND FORM's CARD OF 'concordatlaw07.LabelLattice'. -/
def labelLatticeUptoCard : Claim7 := { stood := { row := labelLatticeUptoRow, standIns := [], harness := (true, "73595ff8e6f0be8493e5b30b36e3c2a77f0b0aa09fdabda227c6cb6576710c71"), looks := true }, kinds := [], alts := [], laidByText := true, laidKinds := [.data, .data, .data, .data, .sentinel, .sentinel, .pinned], laidTests := true, laidLooks := .later }
def LabelLatticeUptoCardSaid : Prop := Claim7.holds Tryd.pinned (.plain (OpenSpec.upto labelLatticeSpec)) labelLatticeUptoCard

/-- THE SECOND FORM's CARD OF 'concordatlaw07.LabelNeeds'. -/
def labelNeedsUptoCard : Claim7 := { stood := { row := labelNeedsUptoRow, standIns := [], harness := (true, "73595ff8e6f0be8493e5b30b36e3c2a77f0b0aa09fdabda227c6cb6576710c71"), looks := true }, kinds := [], alts := [], laidByText := true, laidKinds := [.data, .data, .data, .data, .sentinel, .sentinel, .pinned], laidTests := true, laidLooks := .later }
def LabelNeedsUptoCardSaid : Prop := Claim7.holds Tryd.pinned (.plain (OpenSpec.upto labelNeedsSpec)) labelNeedsUptoCard

/-- THE SECOND FORM's CARD OF 'concordatlaw07.LabelRaises'. -/
def labelRaisesUptoCard : Claim7 := { stood := { row := labelRaisesUptoRow, standIns := [], harness := (true, "73595ff8e6f0be8493e5b30b36e3c2a77f0b0aa09fdabda227c6cb6576710c71"), looks := true }, kinds := [], alts := [], laidByText := true, laidKinds := [.data, .data, .data, .data, .sentinel, .sentinel, .pinned], laidTests := true, laidLooks := .later }
def LabelRaisesUptoCardSaid : Prop := Claim7.holds Tryd.pinned (.plain (OpenSpec.upto labelRaisesSpec)) labelRaisesUptoCard

/-- THE SECOND FORM's CARD OF 'concordatlaw07.LabelBack'. -/
def labelBackUptoCard : Claim7 := { stood := { row := labelBackUptoRow, standIns := [], harness := (true, "73595ff8e6f0be8493e5b30b36e3c2a77f0b0aa09fdabda227c6cb6576710c71"), looks := true }, kinds := [], alts := [], laidByText := true, laidKinds := [.data, .data, .data, .data, .sentinel, .sentinel, .pinned], laidTests := true, laidLooks := .later }
def LabelBackUptoCardSaid : Prop := Claim7.holds Tryd.pinned (.plain (OpenSpec.upto labelBackSpec)) labelBackUptoCard

/-- THE SECOND FORM's CARD OF 'concordatlaw07.LabelJoins'. -/
def labelJoinsUptoCard : Claim7 := { stood := { row := labelJoinsUptoRow, standIns := [], harness := (true, "73595ff8e6f0be8493e5b30b36e3c2a77f0b0aa09fdabda227c6cb6576710c71"), looks := true }, kinds := [], alts := [], laidByText := true, laidKinds := [.data, .data, .data, .data, .sentinel, .sentinel, .pinned], laidTests := true, laidLooks := .later }
def LabelJoinsUptoCardSaid : Prop := Claim7.holds Tryd.pinned (.plain (OpenSpec.upto labelJoinsSpec)) labelJoinsUptoCard
end Rows
end Go.Proofs.YtegjlgdbipfpaaaDoor
