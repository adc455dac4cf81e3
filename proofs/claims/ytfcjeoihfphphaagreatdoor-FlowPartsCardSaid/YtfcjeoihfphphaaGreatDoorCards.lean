/-
  DERIVED. GIVEN WITH THE SEED: THE CARDS: each row of YtfcjeoihfphphaaGreatDoorRows.lean that lists a variable, with what it lists TIED to the program's text (the seventh form; the later family's looks); each row that meets fmt, with fmt's text TOLD by the authors' own Lean function (tested against real Go, not proved from fmt's source: count such statements apart). THE CARD IS WHAT COUNTS. Prove the row's statement (the work); the ties are given (YtfcjeoihfphphaaGreatDoorTie.lean); close each card by the builder's one call (the guide's Derived/Test/ToyasCard.lean, 'card_holds'). Laid BY PROGRAM, IN A SANDBOX (cutbox-door.mjs). By AI agents, Wed Nov 11 2026. No macro, syntax, notation, axiom, sorry.
-/
import Derived.Test.YtfcjeoihfphphaaGreatDoorRows
import GoSem.ClaimSeven
namespace Go.Proofs.YtfcjeoihfphphaaGreatDoor
namespace Rows

/-- THE TIED CARD OF 'assessorlaw17.FlowBuilds'. -/
def flowBuildsCard : Claim7 := { stood := { row := flowBuildsRow, standIns := [], harness := (true, "7dff7dc0f07bab8522e6b7d941abb21257a7d8bd1da87512666a0b774bbdd436"), looks := false }, kinds := [], alts := [], laidByText := true, laidKinds := [.data, .pinned], laidTests := true, laidLooks := .later }
def FlowBuildsCardSaid : Prop := Claim7.holds Tryz.pinned (.plain (OpenSpec.ofChange flowBuildsSpec)) flowBuildsCard

/-- THE TIED CARD OF 'assessorlaw17.FlowParts'. -/
def flowPartsCard : Claim7 := { stood := { row := flowPartsRow, standIns := [], harness := (true, "7dff7dc0f07bab8522e6b7d941abb21257a7d8bd1da87512666a0b774bbdd436"), looks := false }, kinds := [], alts := [], laidByText := true, laidKinds := [.data, .pinned], laidTests := true, laidLooks := .later }
def FlowPartsCardSaid : Prop := Claim7.holds Tryz.pinned (.plain (OpenSpec.ofChange flowPartsSpec)) flowPartsCard

/-- THE TIED CARD OF 'assessorlaw17.FlowShapes'. -/
def flowShapesCard : Claim7 := { stood := { row := flowShapesRow, standIns := [], harness := (true, "7dff7dc0f07bab8522e6b7d941abb21257a7d8bd1da87512666a0b774bbdd436"), looks := false }, kinds := [], alts := [], laidByText := true, laidKinds := [.data, .pinned], laidTests := true, laidLooks := .later }
def FlowShapesCardSaid : Prop := Claim7.holds Tryz.pinned (.plain (OpenSpec.ofChange flowShapesSpec)) flowShapesCard

/-- THE TIED CARD OF 'assessorlaw17.FlowBlocks'. -/
def flowBlocksCard : Claim7 := { stood := { row := flowBlocksRow, standIns := [], harness := (true, "7dff7dc0f07bab8522e6b7d941abb21257a7d8bd1da87512666a0b774bbdd436"), looks := false }, kinds := [], alts := [], laidByText := true, laidKinds := [.data, .pinned], laidTests := true, laidLooks := .later }
def FlowBlocksCardSaid : Prop := Claim7.holds Tryz.pinned (.plain (OpenSpec.ofChange flowBlocksSpec)) flowBlocksCard

/-- THE SECOND FORM's CARD OF 'assessorlaw17.FlowBuilds'. -/
def flowBuildsUptoCard : Claim7 := { stood := { row := flowBuildsUptoRow, standIns := [], harness := (true, "7dff7dc0f07bab8522e6b7d941abb21257a7d8bd1da87512666a0b774bbdd436"), looks := false }, kinds := [], alts := [], laidByText := true, laidKinds := [.data, .pinned], laidTests := true, laidLooks := .later }
def FlowBuildsUptoCardSaid : Prop := Claim7.holds Tryz.pinned (.plain (OpenSpec.upto flowBuildsSpec)) flowBuildsUptoCard

/-- THE SECOND FORM's CARD OF 'assessorlaw17.FlowParts'. -/
def flowPartsUptoCard : Claim7 := { stood := { row := flowPartsUptoRow, standIns := [], harness := (true, "7dff7dc0f07bab8522e6b7d941abb21257a7d8bd1da87512666a0b774bbdd436"), looks := false }, kinds := [], alts := [], laidByText := true, laidKinds := [.data, .pinned], laidTests := true, laidLooks := .later }
def FlowPartsUptoCardSaid : Prop := Claim7.holds Tryz.pinned (.plain (OpenSpec.upto flowPartsSpec)) flowPartsUptoCard

/-- THE SECOND FORM's CARD OF 'assessorlaw17.FlowShapes'. -/
def flowShapesUptoCard : Claim7 := { stood := { row := flowShapesUptoRow, standIns := [], harness := (true, "7dff7dc0f07bab8522e6b7d941abb21257a7d8bd1da87512666a0b774bbdd436"), looks := false }, kinds := [], alts := [], laidByText := true, laidKinds := [.data, .pinned], laidTests := true, laidLooks := .later }
def FlowShapesUptoCardSaid : Prop := Claim7.holds Tryz.pinned (.plain (OpenSpec.upto flowShapesSpec)) flowShapesUptoCard

/-- THE SECOND FORM's CARD OF 'assessorlaw17.FlowBlocks'. -/
def flowBlocksUptoCard : Claim7 := { stood := { row := flowBlocksUptoRow, standIns := [], harness := (true, "7dff7dc0f07bab8522e6b7d941abb21257a7d8bd1da87512666a0b774bbdd436"), looks := false }, kinds := [], alts := [], laidByText := true, laidKinds := [.data, .pinned], laidTests := true, laidLooks := .later }
def FlowBlocksUptoCardSaid : Prop := Claim7.holds Tryz.pinned (.plain (OpenSpec.upto flowBlocksSpec)) flowBlocksUptoCard
end Rows
end Go.Proofs.YtfcjeoihfphphaaGreatDoor
