/-
  DERIVED. GIVEN WITH THE SEED: THE CARDS: each row of YtjnjalalkbamkaaGreatDoorRows.lean that lists a variable, with what it lists TIED to the program's text (the seventh form; the later family's looks); each row that meets fmt, with fmt's text TOLD by the authors' own Lean function (tested against real Go, not proved from fmt's source: count such statements apart). THE CARD IS WHAT COUNTS. Prove the row's statement (the work); the ties are given (YtjnjalalkbamkaaGreatDoorTie.lean); close each card by the builder's one call (the guide's Derived/Test/ToyasCard.lean, 'card_holds'). Laid BY PROGRAM, IN A SANDBOX (cutbox-door.mjs). By AI agents, Wed Nov 11 2026. No macro, syntax, notation, axiom, sorry.
-/
import Derived.Test.YtjnjalalkbamkaaGreatDoorRows
import GoSem.ClaimSeven
namespace Go.Proofs.YtjnjalalkbamkaaGreatDoor
namespace Rows

/-- THE TIED CARD OF 'arbaclaw52.CampaignReads'. -/
def campaignReadsCard : Claim7 := { stood := { row := campaignReadsRow, standIns := [], harness := (true, "15c049be033acc2f0db3ab0ef60b811672ccb7327649e21e9e6e35401316c572"), looks := true }, kinds := [], alts := [], laidByText := true, laidKinds := [.data, .data, .pinned], laidTests := true, laidLooks := .later }
def CampaignReadsCardSaid : Prop := Claim7.holds Tryz.pinned (.plain (OpenSpec.ofChange campaignReadsSpec)) campaignReadsCard

/-- THE SECOND FORM's CARD OF 'arbaclaw52.CampaignReads'. -/
def campaignReadsUptoCard : Claim7 := { stood := { row := campaignReadsUptoRow, standIns := [], harness := (true, "15c049be033acc2f0db3ab0ef60b811672ccb7327649e21e9e6e35401316c572"), looks := true }, kinds := [], alts := [], laidByText := true, laidKinds := [.data, .data, .pinned], laidTests := true, laidLooks := .later }
def CampaignReadsUptoCardSaid : Prop := Claim7.holds Tryz.pinned (.plain (OpenSpec.upto campaignReadsSpec)) campaignReadsUptoCard
end Rows
end Go.Proofs.YtjnjalalkbamkaaGreatDoor
