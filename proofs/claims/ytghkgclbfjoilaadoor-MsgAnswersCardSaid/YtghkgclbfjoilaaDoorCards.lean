/-
  DERIVED. GIVEN WITH THE SEED: THE CARDS: each row of YtghkgclbfjoilaaDoorRows.lean that lists a variable, with what it lists TIED to the program's text (the seventh form; the later family's looks); each row that meets fmt, with fmt's text TOLD by the authors' own Lean function (tested against real Go, not proved from fmt's source: count such statements apart). THE CARD IS WHAT COUNTS. Prove the row's statement (the work); the ties are given (YtghkgclbfjoilaaDoorTie.lean); close each card by the builder's one call (the guide's Derived/Test/ToyasCard.lean, 'card_holds'). Laid BY PROGRAM, IN A SANDBOX (cutbox-door.mjs). By AI agents, Wed Nov 11 2026. No macro, syntax, notation, axiom, sorry.
-/
import Derived.Test.YtghkgclbfjoilaaDoorRows
import GoSem.ClaimSeven
namespace Go.Proofs.YtghkgclbfjoilaaDoor
namespace Rows

/-- THE TIED CARD OF 'rollbooklaw26.MsgBehind'. -/
def msgBehindCard : Claim7 := { stood := { row := msgBehindRow, standIns := [], harness := (true, "85f623a00cbee4a9f667985e4a2195283df4bbeeeff1b3e0cb0f96ca30c50aab"), looks := true }, kinds := [], alts := [], laidByText := true, laidKinds := [.data], laidTests := true, laidLooks := .later }
def MsgBehindCardSaid : Prop := Claim7.holds Tryd.pinned (.plain (OpenSpec.ofChange msgBehindSpec)) msgBehindCard

/-- THE TIED CARD OF 'rollbooklaw26.MsgAnswers'. -/
def msgAnswersCard : Claim7 := { stood := { row := msgAnswersRow, standIns := [], harness := (true, "85f623a00cbee4a9f667985e4a2195283df4bbeeeff1b3e0cb0f96ca30c50aab"), looks := true }, kinds := [], alts := [], laidByText := true, laidKinds := [.data], laidTests := true, laidLooks := .later }
def MsgAnswersCardSaid : Prop := Claim7.holds Tryd.pinned (.plain (OpenSpec.ofChange msgAnswersSpec)) msgAnswersCard

/-- THE TIED CARD OF 'rollbooklaw26.MsgWide'. -/
def msgWideCard : Claim7 := { stood := { row := msgWideRow, standIns := [], harness := (true, "85f623a00cbee4a9f667985e4a2195283df4bbeeeff1b3e0cb0f96ca30c50aab"), looks := true }, kinds := [], alts := [], laidByText := true, laidKinds := [.data], laidTests := true, laidLooks := .later }
def MsgWideCardSaid : Prop := Claim7.holds Tryd.pinned (.plain (OpenSpec.ofChange msgWideSpec)) msgWideCard

/-- THE SECOND FORM's CARD OF 'rollbooklaw26.MsgBehind'. -/
def msgBehindUptoCard : Claim7 := { stood := { row := msgBehindUptoRow, standIns := [], harness := (true, "85f623a00cbee4a9f667985e4a2195283df4bbeeeff1b3e0cb0f96ca30c50aab"), looks := true }, kinds := [], alts := [], laidByText := true, laidKinds := [.data], laidTests := true, laidLooks := .later }
def MsgBehindUptoCardSaid : Prop := Claim7.holds Tryd.pinned (.plain (OpenSpec.upto msgBehindSpec)) msgBehindUptoCard

/-- THE SECOND FORM's CARD OF 'rollbooklaw26.MsgAnswers'. -/
def msgAnswersUptoCard : Claim7 := { stood := { row := msgAnswersUptoRow, standIns := [], harness := (true, "85f623a00cbee4a9f667985e4a2195283df4bbeeeff1b3e0cb0f96ca30c50aab"), looks := true }, kinds := [], alts := [], laidByText := true, laidKinds := [.data], laidTests := true, laidLooks := .later }
def MsgAnswersUptoCardSaid : Prop := Claim7.holds Tryd.pinned (.plain (OpenSpec.upto msgAnswersSpec)) msgAnswersUptoCard

/-- THE SECOND FORM's CARD OF 'rollbooklaw26.MsgWide'. -/
def msgWideUptoCard : Claim7 := { stood := { row := msgWideUptoRow, standIns := [], harness := (true, "85f623a00cbee4a9f667985e4a2195283df4bbeeeff1b3e0cb0f96ca30c50aab"), looks := true }, kinds := [], alts := [], laidByText := true, laidKinds := [.data], laidTests := true, laidLooks := .later }
def MsgWideUptoCardSaid : Prop := Claim7.holds Tryd.pinned (.plain (OpenSpec.upto msgWideSpec)) msgWideUptoCard
end Rows
end Go.Proofs.YtghkgclbfjoilaaDoor
