/-
  DERIVED. GIVEN WITH THE SEED: THE CARDS: each row of YtgpgmmkkmoecmaaGreatDoorRows.lean that lists a variable, with what it lists TIED to the program's text (the seventh form; the later family's looks); each row that meets fmt, with fmt's text TOLD by the authors' own Lean function (tested against real Go, not proved from fmt's source: count such statements apart). THE CARD IS WHAT COUNTS. Prove the row's statement (the work); the ties are given (YtgpgmmkkmoecmaaGreatDoorTie.lean); close each card by the builder's one call (the guide's Derived/Test/ToyasCard.lean, 'card_holds'). Laid BY PROGRAM, IN A SANDBOX (cutbox-door.mjs). By AI agents, Wed Nov 11 2026. No macro, syntax, notation, axiom, sorry.
-/
import Derived.Test.YtgpgmmkkmoecmaaGreatDoorRows
import GoSem.ClaimSeven
namespace Go.Proofs.YtgpgmmkkmoecmaaGreatDoor
namespace Rows

/-- THE TIED CARD OF 'arboristtop.TopNames'. -/
def topNamesCard : Claim7 := { stood := { row := topNamesRow, standIns := [], harness := (true, "843dc92d9d088875f2098b4c73daa70fabfe9a87bbd5d48f2c4ab3952ac856b2"), looks := true }, kinds := [], alts := [], laidByText := true, laidKinds := [.data, .data, .data, .sentinel, .sentinel, .widerDeep, .widerDeep], laidTests := true, laidLooks := .later }
def TopNamesCardSaid : Prop := Claim7.holds Tryz.pinned (.plain (OpenSpec.ofChange topNamesSpec)) topNamesCard

/-- THE TIED CARD OF 'arboristtop.TopPrints'. -/
def topPrintsCard : Claim7 := { stood := { row := topPrintsRow, standIns := [], harness := (true, "843dc92d9d088875f2098b4c73daa70fabfe9a87bbd5d48f2c4ab3952ac856b2"), looks := true }, kinds := [], alts := [], laidByText := true, laidKinds := [.data, .data, .data, .sentinel, .sentinel, .widerDeep, .widerDeep], laidTests := true, laidLooks := .later }
def TopPrintsCardSaid : Prop := Claim7.holds Tryz.pinned (.plain (OpenSpec.ofChange topPrintsSpec)) topPrintsCard

/-- THE SECOND FORM's CARD OF 'arboristtop.TopNames'. -/
def topNamesUptoCard : Claim7 := { stood := { row := topNamesUptoRow, standIns := [], harness := (true, "843dc92d9d088875f2098b4c73daa70fabfe9a87bbd5d48f2c4ab3952ac856b2"), looks := true }, kinds := [], alts := [], laidByText := true, laidKinds := [.data, .data, .data, .sentinel, .sentinel, .widerDeep, .widerDeep], laidTests := true, laidLooks := .later }
def TopNamesUptoCardSaid : Prop := Claim7.holds Tryz.pinned (.plain (OpenSpec.upto topNamesSpec)) topNamesUptoCard

/-- THE SECOND FORM's CARD OF 'arboristtop.TopPrints'. -/
def topPrintsUptoCard : Claim7 := { stood := { row := topPrintsUptoRow, standIns := [], harness := (true, "843dc92d9d088875f2098b4c73daa70fabfe9a87bbd5d48f2c4ab3952ac856b2"), looks := true }, kinds := [], alts := [], laidByText := true, laidKinds := [.data, .data, .data, .sentinel, .sentinel, .widerDeep, .widerDeep], laidTests := true, laidLooks := .later }
def TopPrintsUptoCardSaid : Prop := Claim7.holds Tryz.pinned (.plain (OpenSpec.upto topPrintsSpec)) topPrintsUptoCard
end Rows
end Go.Proofs.YtgpgmmkkmoecmaaGreatDoor
