/-
  DERIVED. GIVEN WITH THE SEED: THE CARDS: each row of YtncmjgmlnnenhaaGreatDoorRows.lean that lists a variable, with what it lists TIED to the program's text (the seventh form; the later family's looks); each row that meets fmt, with fmt's text TOLD by the authors' own Lean function (tested against real Go, not proved from fmt's source: count such statements apart). THE CARD IS WHAT COUNTS. Prove the row's statement (the work); the ties are given (YtncmjgmlnnenhaaGreatDoorTie.lean); close each card by the builder's one call (the guide's Derived/Test/ToyasCard.lean, 'card_holds'). Laid BY PROGRAM, IN A SANDBOX (cutbox-door.mjs). By AI agents, Wed Nov 11 2026. No macro, syntax, notation, axiom, sorry.
-/
import Derived.Test.YtncmjgmlnnenhaaGreatDoorRows
import GoSem.ClaimSeven
namespace Go.Proofs.YtncmjgmlnnenhaaGreatDoor
namespace Rows

/-- THE TIED CARD OF 'arbaclaw22.SessionKeeps'. -/
def sessionKeepsCard : Claim7 := { stood := { row := sessionKeepsRow, standIns := [], harness := (true, "5fc3fded8274361b6a01c1545813dc01cc346ac8b97b88f1783de622a03e79db"), looks := false }, kinds := [], alts := [], laidByText := true, laidKinds := [.data], laidTests := true, laidLooks := .later }
def SessionKeepsCardSaid : Prop := Claim7.holds Tryz.pinned (.plain (OpenSpec.ofChange sessionKeepsSpec)) sessionKeepsCard

/-- THE TIED CARD OF 'arbaclaw22.SessionEquals'. -/
def sessionEqualsCard : Claim7 := { stood := { row := sessionEqualsRow, standIns := [], harness := (true, "5fc3fded8274361b6a01c1545813dc01cc346ac8b97b88f1783de622a03e79db"), looks := false }, kinds := [], alts := [], laidByText := true, laidKinds := [.data], laidTests := true, laidLooks := .later }
def SessionEqualsCardSaid : Prop := Claim7.holds Tryz.pinned (.plain (OpenSpec.ofChange sessionEqualsSpec)) sessionEqualsCard

/-- THE TIED CARD OF 'arbaclaw22.SessionBytes'. -/
def sessionBytesCard : Claim7 := { stood := { row := sessionBytesRow, standIns := [], harness := (true, "5fc3fded8274361b6a01c1545813dc01cc346ac8b97b88f1783de622a03e79db"), looks := false }, kinds := [], alts := [], laidByText := true, laidKinds := [.data], laidTests := true, laidLooks := .later }
def SessionBytesCardSaid : Prop := Claim7.holds Tryz.pinned (.plain (OpenSpec.ofChange sessionBytesSpec)) sessionBytesCard

/-- THE TIED CARD OF 'arbaclaw22.SessionGrants'. -/
def sessionGrantsCard : Claim7 := { stood := { row := sessionGrantsRow, standIns := [], harness := (true, "5fc3fded8274361b6a01c1545813dc01cc346ac8b97b88f1783de622a03e79db"), looks := false }, kinds := [], alts := [], laidByText := true, laidKinds := [.data, .data, .pinned], laidTests := true, laidLooks := .later }
def SessionGrantsCardSaid : Prop := Claim7.holds Tryz.pinned (.plain (OpenSpec.ofChange sessionGrantsSpec)) sessionGrantsCard

/-- THE SECOND FORM's CARD OF 'arbaclaw22.SessionKeeps'. -/
def sessionKeepsUptoCard : Claim7 := { stood := { row := sessionKeepsUptoRow, standIns := [], harness := (true, "5fc3fded8274361b6a01c1545813dc01cc346ac8b97b88f1783de622a03e79db"), looks := false }, kinds := [], alts := [], laidByText := true, laidKinds := [.data], laidTests := true, laidLooks := .later }
def SessionKeepsUptoCardSaid : Prop := Claim7.holds Tryz.pinned (.plain (OpenSpec.upto sessionKeepsSpec)) sessionKeepsUptoCard

/-- THE SECOND FORM's CARD OF 'arbaclaw22.SessionEquals'. -/
def sessionEqualsUptoCard : Claim7 := { stood := { row := sessionEqualsUptoRow, standIns := [], harness := (true, "5fc3fded8274361b6a01c1545813dc01cc346ac8b97b88f1783de622a03e79db"), looks := false }, kinds := [], alts := [], laidByText := true, laidKinds := [.data], laidTests := true, laidLooks := .later }
def SessionEqualsUptoCardSaid : Prop := Claim7.holds Tryz.pinned (.plain (OpenSpec.upto sessionEqualsSpec)) sessionEqualsUptoCard

/-- THE SECOND FORM's CARD OF 'arbaclaw22.SessionBytes'. -/
def sessionBytesUptoCard : Claim7 := { stood := { row := sessionBytesUptoRow, standIns := [], harness := (true, "5fc3fded8274361b6a01c1545813dc01cc346ac8b97b88f1783de622a03e79db"), looks := false }, kinds := [], alts := [], laidByText := true, laidKinds := [.data], laidTests := true, laidLooks := .later }
def SessionBytesUptoCardSaid : Prop := Claim7.holds Tryz.pinned (.plain (OpenSpec.upto sessionBytesSpec)) sessionBytesUptoCard

/-- THE SECOND FORM's CARD OF 'arbaclaw22.SessionGrants'. -/
def sessionGrantsUptoCard : Claim7 := { stood := { row := sessionGrantsUptoRow, standIns := [], harness := (true, "5fc3fded8274361b6a01c1545813dc01cc346ac8b97b88f1783de622a03e79db"), looks := false }, kinds := [], alts := [], laidByText := true, laidKinds := [.data, .data, .pinned], laidTests := true, laidLooks := .later }
def SessionGrantsUptoCardSaid : Prop := Claim7.holds Tryz.pinned (.plain (OpenSpec.upto sessionGrantsSpec)) sessionGrantsUptoCard
end Rows
end Go.Proofs.YtncmjgmlnnenhaaGreatDoor
