/-
  DERIVED. GIVEN WITH THE SEED: THE CARDS: each row of YtecjjgljkepajaaGreatDoorRows.lean that lists a variable, with what it lists TIED to the program's text (the seventh form; the later family's looks); each row that meets fmt, with fmt's text TOLD by the authors' own Lean function (tested against real Go, not proved from fmt's source: count such statements apart). THE CARD IS WHAT COUNTS. Prove the row's statement (the work); the ties are given (YtecjjgljkepajaaGreatDoorTie.lean); close each card by the builder's one call (the guide's Derived/Test/ToyasCard.lean, 'card_holds'). Laid BY PROGRAM, IN A SANDBOX (cutbox-door.mjs). By AI agents, Wed Nov 11 2026. No macro, syntax, notation, axiom, sorry.
-/
import Derived.Test.YtecjjgljkepajaaGreatDoorRows
import GoSem.ClaimSeven
namespace Go.Proofs.YtecjjgljkepajaaGreatDoor
namespace Rows

/-- THE TIED CARD OF 'arbaclaw51.MergeSets'. -/
def mergeSetsCard : Claim7 := { stood := { row := mergeSetsRow, standIns := [], harness := (true, "34e1c8705f31c4432533bb860959fd9821b05bb4dcd00d297ae450f3adcc73d2"), looks := false }, kinds := [], alts := [], laidByText := true, laidKinds := [.data, .pinned], laidTests := true, laidLooks := .later }
def MergeSetsCardSaid : Prop := Claim7.holds Tryz.pinned (.plain (OpenSpec.ofChange mergeSetsSpec)) mergeSetsCard

/-- THE TIED CARD OF 'arbaclaw51.MergeResolves'. -/
def mergeResolvesCard : Claim7 := { stood := { row := mergeResolvesRow, standIns := [], harness := (true, "34e1c8705f31c4432533bb860959fd9821b05bb4dcd00d297ae450f3adcc73d2"), looks := false }, kinds := [], alts := [], laidByText := true, laidKinds := [.data, .pinned], laidTests := true, laidLooks := .later }
def MergeResolvesCardSaid : Prop := Claim7.holds Tryz.pinned (.plain (OpenSpec.ofChange mergeResolvesSpec)) mergeResolvesCard

/-- THE TIED CARD OF 'arbaclaw51.MergeTurns'. -/
def mergeTurnsCard : Claim7 := { stood := { row := mergeTurnsRow, standIns := [], harness := (true, "34e1c8705f31c4432533bb860959fd9821b05bb4dcd00d297ae450f3adcc73d2"), looks := false }, kinds := [], alts := [], laidByText := true, laidKinds := [.data, .pinned], laidTests := true, laidLooks := .later }
def MergeTurnsCardSaid : Prop := Claim7.holds Tryz.pinned (.plain (OpenSpec.ofChange mergeTurnsSpec)) mergeTurnsCard

/-- THE SECOND FORM's CARD OF 'arbaclaw51.MergeSets'. -/
def mergeSetsUptoCard : Claim7 := { stood := { row := mergeSetsUptoRow, standIns := [], harness := (true, "34e1c8705f31c4432533bb860959fd9821b05bb4dcd00d297ae450f3adcc73d2"), looks := false }, kinds := [], alts := [], laidByText := true, laidKinds := [.data, .pinned], laidTests := true, laidLooks := .later }
def MergeSetsUptoCardSaid : Prop := Claim7.holds Tryz.pinned (.plain (OpenSpec.upto mergeSetsSpec)) mergeSetsUptoCard

/-- THE SECOND FORM's CARD OF 'arbaclaw51.MergeResolves'. -/
def mergeResolvesUptoCard : Claim7 := { stood := { row := mergeResolvesUptoRow, standIns := [], harness := (true, "34e1c8705f31c4432533bb860959fd9821b05bb4dcd00d297ae450f3adcc73d2"), looks := false }, kinds := [], alts := [], laidByText := true, laidKinds := [.data, .pinned], laidTests := true, laidLooks := .later }
def MergeResolvesUptoCardSaid : Prop := Claim7.holds Tryz.pinned (.plain (OpenSpec.upto mergeResolvesSpec)) mergeResolvesUptoCard

/-- THE SECOND FORM's CARD OF 'arbaclaw51.MergeTurns'. -/
def mergeTurnsUptoCard : Claim7 := { stood := { row := mergeTurnsUptoRow, standIns := [], harness := (true, "34e1c8705f31c4432533bb860959fd9821b05bb4dcd00d297ae450f3adcc73d2"), looks := false }, kinds := [], alts := [], laidByText := true, laidKinds := [.data, .pinned], laidTests := true, laidLooks := .later }
def MergeTurnsUptoCardSaid : Prop := Claim7.holds Tryz.pinned (.plain (OpenSpec.upto mergeTurnsSpec)) mergeTurnsUptoCard
end Rows
end Go.Proofs.YtecjjgljkepajaaGreatDoor
