/-
  DERIVED. GIVEN WITH THE SEED: THE CARDS: each row of YtdnkjdmfnmdpdaaGreatDoorRows.lean that lists a variable, with what it lists TIED to the program's text (the seventh form; the later family's looks); each row that meets fmt, with fmt's text TOLD by the authors' own Lean function (tested against real Go, not proved from fmt's source: count such statements apart). THE CARD IS WHAT COUNTS. Prove the row's statement (the work); the ties are given (YtdnkjdmfnmdpdaaGreatDoorTie.lean); close each card by the builder's one call (the guide's Derived/Test/ToyasCard.lean, 'card_holds'). Laid BY PROGRAM, IN A SANDBOX (cutbox-door.mjs). By AI agents, Wed Nov 11 2026. No macro, syntax, notation, axiom, sorry.
-/
import Derived.Test.YtdnkjdmfnmdpdaaGreatDoorRows
import GoSem.ClaimSeven
namespace Go.Proofs.YtdnkjdmfnmdpdaaGreatDoor
namespace Rows

/-- THE TIED CARD OF 'arbaclaw50.ChangesetOps'. -/
def changesetOpsCard : Claim7 := { stood := { row := changesetOpsRow, standIns := [], harness := (true, "62378fccdf563fb6c9b5ff779b3dac5d62559a81968f2041bf0908ecccaa8b5d"), looks := false }, kinds := [], alts := [], laidByText := true, laidKinds := [.data, .data, .data, .data, .pinned], laidTests := true, laidLooks := .later }
def ChangesetOpsCardSaid : Prop := Claim7.holds Tryz.pinned (.plain (OpenSpec.ofChange changesetOpsSpec)) changesetOpsCard

/-- THE TIED CARD OF 'arbaclaw50.ChangesetThen'. -/
def changesetThenCard : Claim7 := { stood := { row := changesetThenRow, standIns := [], harness := (true, "62378fccdf563fb6c9b5ff779b3dac5d62559a81968f2041bf0908ecccaa8b5d"), looks := false }, kinds := [], alts := [], laidByText := true, laidKinds := [.data, .data, .data, .data, .pinned], laidTests := true, laidLooks := .later }
def ChangesetThenCardSaid : Prop := Claim7.holds Tryz.pinned (.plain (OpenSpec.ofChange changesetThenSpec)) changesetThenCard

/-- THE TIED CARD OF 'arbaclaw50.ChangesetReads'. -/
def changesetReadsCard : Claim7 := { stood := { row := changesetReadsRow, standIns := [], harness := (true, "62378fccdf563fb6c9b5ff779b3dac5d62559a81968f2041bf0908ecccaa8b5d"), looks := false }, kinds := [], alts := [], laidByText := true, laidKinds := [.data, .data, .data, .data, .pinned], laidTests := true, laidLooks := .later }
def ChangesetReadsCardSaid : Prop := Claim7.holds Tryz.pinned (.plain (OpenSpec.ofChange changesetReadsSpec)) changesetReadsCard

/-- THE TIED CARD OF 'arbaclaw50.ChangesetBytes'. -/
def changesetBytesCard : Claim7 := { stood := { row := changesetBytesRow, standIns := [], harness := (true, "62378fccdf563fb6c9b5ff779b3dac5d62559a81968f2041bf0908ecccaa8b5d"), looks := false }, kinds := [], alts := [], laidByText := true, laidKinds := [.data, .data, .data, .data, .pinned], laidTests := true, laidLooks := .later }
def ChangesetBytesCardSaid : Prop := Claim7.holds Tryz.pinned (.plain (OpenSpec.ofChange changesetBytesSpec)) changesetBytesCard

/-- THE SECOND FORM's CARD OF 'arbaclaw50.ChangesetOps'. -/
def changesetOpsUptoCard : Claim7 := { stood := { row := changesetOpsUptoRow, standIns := [], harness := (true, "62378fccdf563fb6c9b5ff779b3dac5d62559a81968f2041bf0908ecccaa8b5d"), looks := false }, kinds := [], alts := [], laidByText := true, laidKinds := [.data, .data, .data, .data, .pinned], laidTests := true, laidLooks := .later }
def ChangesetOpsUptoCardSaid : Prop := Claim7.holds Tryz.pinned (.plain (OpenSpec.upto changesetOpsSpec)) changesetOpsUptoCard

/-- THE SECOND FORM's CARD OF 'arbaclaw50.ChangesetThen'. -/
def changesetThenUptoCard : Claim7 := { stood := { row := changesetThenUptoRow, standIns := [], harness := (true, "62378fccdf563fb6c9b5ff779b3dac5d62559a81968f2041bf0908ecccaa8b5d"), looks := false }, kinds := [], alts := [], laidByText := true, laidKinds := [.data, .data, .data, .data, .pinned], laidTests := true, laidLooks := .later }
def ChangesetThenUptoCardSaid : Prop := Claim7.holds Tryz.pinned (.plain (OpenSpec.upto changesetThenSpec)) changesetThenUptoCard

/-- THE SECOND FORM's CARD OF 'arbaclaw50.ChangesetReads'. -/
def changesetReadsUptoCard : Claim7 := { stood := { row := changesetReadsUptoRow, standIns := [], harness := (true, "62378fccdf563fb6c9b5ff779b3dac5d62559a81968f2041bf0908ecccaa8b5d"), looks := false }, kinds := [], alts := [], laidByText := true, laidKinds := [.data, .data, .data, .data, .pinned], laidTests := true, laidLooks := .later }
def ChangesetReadsUptoCardSaid : Prop := Claim7.holds Tryz.pinned (.plain (OpenSpec.upto changesetReadsSpec)) changesetReadsUptoCard

/-- THE SECOND FORM's CARD OF 'arbaclaw50.ChangesetBytes'. -/
def changesetBytesUptoCard : Claim7 := { stood := { row := changesetBytesUptoRow, standIns := [], harness := (true, "62378fccdf563fb6c9b5ff779b3dac5d62559a81968f2041bf0908ecccaa8b5d"), looks := false }, kinds := [], alts := [], laidByText := true, laidKinds := [.data, .data, .data, .data, .pinned], laidTests := true, laidLooks := .later }
def ChangesetBytesUptoCardSaid : Prop := Claim7.holds Tryz.pinned (.plain (OpenSpec.upto changesetBytesSpec)) changesetBytesUptoCard
end Rows
end Go.Proofs.YtdnkjdmfnmdpdaaGreatDoor
