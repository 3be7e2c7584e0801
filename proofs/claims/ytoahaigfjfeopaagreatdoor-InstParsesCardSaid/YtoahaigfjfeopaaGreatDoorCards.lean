/-
  DERIVED. GIVEN WITH THE SEED: THE CARDS: each row of YtoahaigfjfeopaaGreatDoorRows.lean that lists a variable, with what it lists TIED to the program's text (the seventh form; the later family's looks); each row that meets fmt, with fmt's text TOLD by the authors' own Lean function (tested against real Go, not proved from fmt's source: count such statements apart). THE CARD IS WHAT COUNTS. Prove the row's statement (the work); the ties are given (YtoahaigfjfeopaaGreatDoorTie.lean); close each card by the builder's one call (the guide's Derived/Test/ToyasCard.lean, 'card_holds'). Laid BY PROGRAM, IN A SANDBOX (cutbox-door.mjs). By AI agents, Wed Nov 11 2026. No macro, syntax, notation, axiom, sorry.
-/
import Derived.Test.YtoahaigfjfeopaaGreatDoorRows
import GoSem.ClaimSeven
namespace Go.Proofs.YtoahaigfjfeopaaGreatDoor
namespace Rows

/-- THE TIED CARD OF 'arboristlaw06.InstRights'. -/
def instRightsCard : Claim7 := { stood := { row := instRightsRow, standIns := [], harness := (true, "b2a57f72a62e44c90c52729ef709b673c25bd5d0f57e251ad75a9cd1315aa5da"), looks := true }, kinds := [], alts := [], laidByText := true, laidKinds := [.data, .data, .data, .sentinel, .sentinel, .widerDeep, .widerDeep], laidTests := true, laidLooks := .later }
def InstRightsCardSaid : Prop := Claim7.holds Tryz.pinned (.plain (OpenSpec.ofChange instRightsSpec)) instRightsCard

/-- THE TIED CARD OF 'arboristlaw06.InstParses'. -/
def instParsesCard : Claim7 := { stood := { row := instParsesRow, standIns := [], harness := (true, "b2a57f72a62e44c90c52729ef709b673c25bd5d0f57e251ad75a9cd1315aa5da"), looks := true }, kinds := [], alts := [], laidByText := true, laidKinds := [.data, .data, .data, .sentinel, .sentinel, .widerDeep, .widerDeep], laidTests := true, laidLooks := .later }
def InstParsesCardSaid : Prop := Claim7.holds Tryz.pinned (.plain (OpenSpec.ofChange instParsesSpec)) instParsesCard

/-- THE TIED CARD OF 'arboristlaw06.InstBack'. -/
def instBackCard : Claim7 := { stood := { row := instBackRow, standIns := [], harness := (true, "b2a57f72a62e44c90c52729ef709b673c25bd5d0f57e251ad75a9cd1315aa5da"), looks := true }, kinds := [], alts := [], laidByText := true, laidKinds := [.data, .data, .data, .sentinel, .sentinel, .widerDeep, .widerDeep], laidTests := true, laidLooks := .later }
def InstBackCardSaid : Prop := Claim7.holds Tryz.pinned (.plain (OpenSpec.ofChange instBackSpec)) instBackCard

/-- THE TIED CARD OF 'arboristlaw06.InstReads'. -/
def instReadsCard : Claim7 := { stood := { row := instReadsRow, standIns := [], harness := (true, "b2a57f72a62e44c90c52729ef709b673c25bd5d0f57e251ad75a9cd1315aa5da"), looks := true }, kinds := [], alts := [], laidByText := true, laidKinds := [.data, .data, .data, .sentinel, .sentinel, .widerDeep, .widerDeep], laidTests := true, laidLooks := .later }
def InstReadsCardSaid : Prop := Claim7.holds Tryz.pinned (.plain (OpenSpec.ofChange instReadsSpec)) instReadsCard

/-- THE TIED CARD OF 'arboristlaw06.InstBehind'. -/
def instBehindCard : Claim7 := { stood := { row := instBehindRow, standIns := [], harness := (true, "b2a57f72a62e44c90c52729ef709b673c25bd5d0f57e251ad75a9cd1315aa5da"), looks := true }, kinds := [], alts := [], laidByText := true, laidKinds := [.data, .data, .data, .sentinel, .sentinel, .widerDeep, .widerDeep], laidTests := true, laidLooks := .later }
def InstBehindCardSaid : Prop := Claim7.holds Tryz.pinned (.plain (OpenSpec.ofChange instBehindSpec)) instBehindCard

/-- THE TIED CARD OF 'arboristlaw06.InstMoves'. -/
def instMovesCard : Claim7 := { stood := { row := instMovesRow, standIns := [], harness := (true, "b2a57f72a62e44c90c52729ef709b673c25bd5d0f57e251ad75a9cd1315aa5da"), looks := true }, kinds := [], alts := [], laidByText := true, laidKinds := [.data, .data, .data, .sentinel, .sentinel, .widerDeep, .widerDeep], laidTests := true, laidLooks := .later }
def InstMovesCardSaid : Prop := Claim7.holds Tryz.pinned (.plain (OpenSpec.ofChange instMovesSpec)) instMovesCard

/-- THE TIED CARD OF 'arboristlaw06.InstMany'. -/
def instManyCard : Claim7 := { stood := { row := instManyRow, standIns := [], harness := (true, "b2a57f72a62e44c90c52729ef709b673c25bd5d0f57e251ad75a9cd1315aa5da"), looks := true }, kinds := [], alts := [], laidByText := true, laidKinds := [.data, .data, .data, .sentinel, .sentinel, .widerDeep, .widerDeep], laidTests := true, laidLooks := .later }
def InstManyCardSaid : Prop := Claim7.holds Tryz.pinned (.plain (OpenSpec.ofChange instManySpec)) instManyCard

/-- THE TIED CARD OF 'arboristlaw06.InstEmpty'. -/
def instEmptyCard : Claim7 := { stood := { row := instEmptyRow, standIns := [], harness := (true, "b2a57f72a62e44c90c52729ef709b673c25bd5d0f57e251ad75a9cd1315aa5da"), looks := true }, kinds := [], alts := [], laidByText := true, laidKinds := [.data, .data, .data, .sentinel, .sentinel, .widerDeep, .widerDeep], laidTests := true, laidLooks := .later }
def InstEmptyCardSaid : Prop := Claim7.holds Tryz.pinned (.plain (OpenSpec.ofChange instEmptySpec)) instEmptyCard

/-- THE SECOND FORM's CARD OF 'arboristlaw06.InstRights'. -/
def instRightsUptoCard : Claim7 := { stood := { row := instRightsUptoRow, standIns := [], harness := (true, "b2a57f72a62e44c90c52729ef709b673c25bd5d0f57e251ad75a9cd1315aa5da"), looks := true }, kinds := [], alts := [], laidByText := true, laidKinds := [.data, .data, .data, .sentinel, .sentinel, .widerDeep, .widerDeep], laidTests := true, laidLooks := .later }
def InstRightsUptoCardSaid : Prop := Claim7.holds Tryz.pinned (.plain (OpenSpec.upto instRightsSpec)) instRightsUptoCard

/-- THE SECOND FORM's CARD OF 'arboristlaw06.InstParses'. -/
def instParsesUptoCard : Claim7 := { stood := { row := instParsesUptoRow, standIns := [], harness := (true, "b2a57f72a62e44c90c52729ef709b673c25bd5d0f57e251ad75a9cd1315aa5da"), looks := true }, kinds := [], alts := [], laidByText := true, laidKinds := [.data, .data, .data, .sentinel, .sentinel, .widerDeep, .widerDeep], laidTests := true, laidLooks := .later }
def InstParsesUptoCardSaid : Prop := Claim7.holds Tryz.pinned (.plain (OpenSpec.upto instParsesSpec)) instParsesUptoCard

/-- THE SECOND FORM's CARD OF 'arboristlaw06.InstBack'. -/
def instBackUptoCard : Claim7 := { stood := { row := instBackUptoRow, standIns := [], harness := (true, "b2a57f72a62e44c90c52729ef709b673c25bd5d0f57e251ad75a9cd1315aa5da"), looks := true }, kinds := [], alts := [], laidByText := true, laidKinds := [.data, .data, .data, .sentinel, .sentinel, .widerDeep, .widerDeep], laidTests := true, laidLooks := .later }
def InstBackUptoCardSaid : Prop := Claim7.holds Tryz.pinned (.plain (OpenSpec.upto instBackSpec)) instBackUptoCard

/-- THE SECOND FORM's CARD OF 'arboristlaw06.InstReads'. -/
def instReadsUptoCard : Claim7 := { stood := { row := instReadsUptoRow, standIns := [], harness := (true, "b2a57f72a62e44c90c52729ef709b673c25bd5d0f57e251ad75a9cd1315aa5da"), looks := true }, kinds := [], alts := [], laidByText := true, laidKinds := [.data, .data, .data, .sentinel, .sentinel, .widerDeep, .widerDeep], laidTests := true, laidLooks := .later }
def InstReadsUptoCardSaid : Prop := Claim7.holds Tryz.pinned (.plain (OpenSpec.upto instReadsSpec)) instReadsUptoCard

/-- THE SECOND FORM's CARD OF 'arboristlaw06.InstBehind'. -/
def instBehindUptoCard : Claim7 := { stood := { row := instBehindUptoRow, standIns := [], harness := (true, "b2a57f72a62e44c90c52729ef709b673c25bd5d0f57e251ad75a9cd1315aa5da"), looks := true }, kinds := [], alts := [], laidByText := true, laidKinds := [.data, .data, .data, .sentinel, .sentinel, .widerDeep, .widerDeep], laidTests := true, laidLooks := .later }
def InstBehindUptoCardSaid : Prop := Claim7.holds Tryz.pinned (.plain (OpenSpec.upto instBehindSpec)) instBehindUptoCard

/-- THE SECOND FORM's CARD OF 'arboristlaw06.InstMoves'. -/
def instMovesUptoCard : Claim7 := { stood := { row := instMovesUptoRow, standIns := [], harness := (true, "b2a57f72a62e44c90c52729ef709b673c25bd5d0f57e251ad75a9cd1315aa5da"), looks := true }, kinds := [], alts := [], laidByText := true, laidKinds := [.data, .data, .data, .sentinel, .sentinel, .widerDeep, .widerDeep], laidTests := true, laidLooks := .later }
def InstMovesUptoCardSaid : Prop := Claim7.holds Tryz.pinned (.plain (OpenSpec.upto instMovesSpec)) instMovesUptoCard

/-- THE SECOND FORM's CARD OF 'arboristlaw06.InstMany'. -/
def instManyUptoCard : Claim7 := { stood := { row := instManyUptoRow, standIns := [], harness := (true, "b2a57f72a62e44c90c52729ef709b673c25bd5d0f57e251ad75a9cd1315aa5da"), looks := true }, kinds := [], alts := [], laidByText := true, laidKinds := [.data, .data, .data, .sentinel, .sentinel, .widerDeep, .widerDeep], laidTests := true, laidLooks := .later }
def InstManyUptoCardSaid : Prop := Claim7.holds Tryz.pinned (.plain (OpenSpec.upto instManySpec)) instManyUptoCard

/-- THE SECOND FORM's CARD OF 'arboristlaw06.InstEmpty'. -/
def instEmptyUptoCard : Claim7 := { stood := { row := instEmptyUptoRow, standIns := [], harness := (true, "b2a57f72a62e44c90c52729ef709b673c25bd5d0f57e251ad75a9cd1315aa5da"), looks := true }, kinds := [], alts := [], laidByText := true, laidKinds := [.data, .data, .data, .sentinel, .sentinel, .widerDeep, .widerDeep], laidTests := true, laidLooks := .later }
def InstEmptyUptoCardSaid : Prop := Claim7.holds Tryz.pinned (.plain (OpenSpec.upto instEmptySpec)) instEmptyUptoCard
end Rows
end Go.Proofs.YtoahaigfjfeopaaGreatDoor
