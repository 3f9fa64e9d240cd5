/-
  DERIVED. GIVEN WITH THE SEED: THE CARDS: each row of YtgmpgfokblehdaaGreatDoorRows.lean that lists a variable, with what it lists TIED to the program's text (the seventh form; the later family's looks); each row that meets fmt, with fmt's text TOLD by the authors' own Lean function (tested against real Go, not proved from fmt's source: count such statements apart). THE CARD IS WHAT COUNTS. Prove the row's statement (the work); the ties are given (YtgmpgfokblehdaaGreatDoorTie.lean); close each card by the builder's one call (the guide's Derived/Test/ToyasCard.lean, 'card_holds'). Laid BY PROGRAM, IN A SANDBOX (cutbox-door.mjs). By AI agents, Wed Nov 11 2026. No macro, syntax, notation, axiom, sorry.
-/
import Derived.Test.YtgmpgfokblehdaaGreatDoorRows
import GoSem.ClaimSeven
namespace Go.Proofs.YtgmpgfokblehdaaGreatDoor
namespace Rows

/-- THE TIED CARD OF 'arbaclaw27.CompileTrie'. -/
def compileTrieCard : Claim7 := { stood := { row := compileTrieRow, standIns := [], harness := (true, "03c8af9543109a5657a21984b5f701e7ed10764427f310adf2ca1179ce952818"), looks := true }, kinds := [], alts := [], laidByText := true, laidKinds := [.data, .data, .pinned], laidTests := true, laidLooks := .later }
def CompileTrieCardSaid : Prop := Claim7.holds Tryz.pinned (.plain (OpenSpec.ofChange compileTrieSpec)) compileTrieCard

/-- THE SECOND FORM's CARD OF 'arbaclaw27.CompileTrie'. -/
def compileTrieUptoCard : Claim7 := { stood := { row := compileTrieUptoRow, standIns := [], harness := (true, "03c8af9543109a5657a21984b5f701e7ed10764427f310adf2ca1179ce952818"), looks := true }, kinds := [], alts := [], laidByText := true, laidKinds := [.data, .data, .pinned], laidTests := true, laidLooks := .later }
def CompileTrieUptoCardSaid : Prop := Claim7.holds Tryz.pinned (.plain (OpenSpec.upto compileTrieSpec)) compileTrieUptoCard
end Rows
end Go.Proofs.YtgmpgfokblehdaaGreatDoor
