/-
  DERIVED. GIVEN WITH THE SEED: THE CARDS: each row of YtndlnfdaeipifaaGreatDoorRows.lean that lists a variable, with what it lists TIED to the program's text (the seventh form; the later family's looks); each row that meets fmt, with fmt's text TOLD by the authors' own Lean function (tested against real Go, not proved from fmt's source: count such statements apart). THE CARD IS WHAT COUNTS. Prove the row's statement (the work); the ties are given (YtndlnfdaeipifaaGreatDoorTie.lean); close each card by the builder's one call (the guide's Derived/Test/ToyasCard.lean, 'card_holds'). Laid BY PROGRAM, IN A SANDBOX (cutbox-door.mjs). By AI agents, Wed Nov 11 2026. No macro, syntax, notation, axiom, sorry.
-/
import Derived.Test.YtndlnfdaeipifaaGreatDoorRows
import GoSem.ClaimSeven
namespace Go.Proofs.YtndlnfdaeipifaaGreatDoor
namespace Rows

/-- THE TIED CARD OF 'arbaclaw13.GrantRedundant'. -/
def grantRedundantCard : Claim7 := { stood := { row := grantRedundantRow, standIns := [], harness := (true, "40a2385cf1b244ad454b2f87b322e97a7c1c865c6fc7cddd2edde899fbc15a10"), looks := false }, kinds := [], alts := [], laidByText := true, laidKinds := [.data, .data, .pinned], laidTests := true, laidLooks := .later }
def GrantRedundantCardSaid : Prop := Claim7.holds Tryz.pinned (.plain (OpenSpec.ofChange grantRedundantSpec)) grantRedundantCard

/-- THE TIED CARD OF 'arbaclaw13.GrantPlays'. -/
def grantPlaysCard : Claim7 := { stood := { row := grantPlaysRow, standIns := [], harness := (true, "40a2385cf1b244ad454b2f87b322e97a7c1c865c6fc7cddd2edde899fbc15a10"), looks := false }, kinds := [], alts := [], laidByText := true, laidKinds := [.data, .data, .pinned], laidTests := true, laidLooks := .later }
def GrantPlaysCardSaid : Prop := Claim7.holds Tryz.pinned (.plain (OpenSpec.ofChange grantPlaysSpec)) grantPlaysCard

/-- THE TIED CARD OF 'arbaclaw13.GrantCovers'. -/
def grantCoversCard : Claim7 := { stood := { row := grantCoversRow, standIns := [], harness := (true, "40a2385cf1b244ad454b2f87b322e97a7c1c865c6fc7cddd2edde899fbc15a10"), looks := false }, kinds := [], alts := [], laidByText := true, laidKinds := [.data, .data, .pinned], laidTests := true, laidLooks := .later }
def GrantCoversCardSaid : Prop := Claim7.holds Tryz.pinned (.plain (OpenSpec.ofChange grantCoversSpec)) grantCoversCard

/-- THE TIED CARD OF 'arbaclaw13.GrantEquals'. -/
def grantEqualsCard : Claim7 := { stood := { row := grantEqualsRow, standIns := [], harness := (true, "40a2385cf1b244ad454b2f87b322e97a7c1c865c6fc7cddd2edde899fbc15a10"), looks := false }, kinds := [], alts := [], laidByText := true, laidKinds := [.data, .data, .pinned], laidTests := true, laidLooks := .later }
def GrantEqualsCardSaid : Prop := Claim7.holds Tryz.pinned (.plain (OpenSpec.ofChange grantEqualsSpec)) grantEqualsCard

/-- THE TIED CARD OF 'arbaclaw13.GrantOrder'. -/
def grantOrderCard : Claim7 := { stood := { row := grantOrderRow, standIns := [], harness := (true, "40a2385cf1b244ad454b2f87b322e97a7c1c865c6fc7cddd2edde899fbc15a10"), looks := false }, kinds := [], alts := [], laidByText := true, laidKinds := [.data, .data, .pinned], laidTests := true, laidLooks := .later }
def GrantOrderCardSaid : Prop := Claim7.holds Tryz.pinned (.plain (OpenSpec.ofChange grantOrderSpec)) grantOrderCard

/-- THE TIED CARD OF 'arbaclaw13.GrantAll'. -/
def grantAllCard : Claim7 := { stood := { row := grantAllRow, standIns := [], harness := (true, "40a2385cf1b244ad454b2f87b322e97a7c1c865c6fc7cddd2edde899fbc15a10"), looks := false }, kinds := [], alts := [], laidByText := true, laidKinds := [.data, .data, .pinned], laidTests := true, laidLooks := .later }
def GrantAllCardSaid : Prop := Claim7.holds Tryz.pinned (.plain (OpenSpec.ofChange grantAllSpec)) grantAllCard

/-- THE TIED CARD OF 'arbaclaw13.GrantNeeds'. -/
def grantNeedsCard : Claim7 := { stood := { row := grantNeedsRow, standIns := [], harness := (true, "40a2385cf1b244ad454b2f87b322e97a7c1c865c6fc7cddd2edde899fbc15a10"), looks := false }, kinds := [], alts := [], laidByText := true, laidKinds := [.data, .data, .pinned], laidTests := true, laidLooks := .later }
def GrantNeedsCardSaid : Prop := Claim7.holds Tryz.pinned (.plain (OpenSpec.ofChange grantNeedsSpec)) grantNeedsCard

/-- THE TIED CARD OF 'arbaclaw13.GrantNil'. -/
def grantNilCard : Claim7 := { stood := { row := grantNilRow, standIns := [], harness := (true, "40a2385cf1b244ad454b2f87b322e97a7c1c865c6fc7cddd2edde899fbc15a10"), looks := false }, kinds := [], alts := [], laidByText := true, laidKinds := [.data, .data, .pinned], laidTests := true, laidLooks := .later }
def GrantNilCardSaid : Prop := Claim7.holds Tryz.pinned (.plain (OpenSpec.ofChange grantNilSpec)) grantNilCard

/-- THE TIED CARD OF 'arbaclaw13.GrantBytes'. -/
def grantBytesCard : Claim7 := { stood := { row := grantBytesRow, standIns := [], harness := (true, "40a2385cf1b244ad454b2f87b322e97a7c1c865c6fc7cddd2edde899fbc15a10"), looks := false }, kinds := [], alts := [], laidByText := true, laidKinds := [.data, .data, .pinned], laidTests := true, laidLooks := .later }
def GrantBytesCardSaid : Prop := Claim7.holds Tryz.pinned (.plain (OpenSpec.ofChange grantBytesSpec)) grantBytesCard

/-- THE SECOND FORM's CARD OF 'arbaclaw13.GrantRedundant'. -/
def grantRedundantUptoCard : Claim7 := { stood := { row := grantRedundantUptoRow, standIns := [], harness := (true, "40a2385cf1b244ad454b2f87b322e97a7c1c865c6fc7cddd2edde899fbc15a10"), looks := false }, kinds := [], alts := [], laidByText := true, laidKinds := [.data, .data, .pinned], laidTests := true, laidLooks := .later }
def GrantRedundantUptoCardSaid : Prop := Claim7.holds Tryz.pinned (.plain (OpenSpec.upto grantRedundantSpec)) grantRedundantUptoCard

/-- THE SECOND FORM's CARD OF 'arbaclaw13.GrantPlays'. -/
def grantPlaysUptoCard : Claim7 := { stood := { row := grantPlaysUptoRow, standIns := [], harness := (true, "40a2385cf1b244ad454b2f87b322e97a7c1c865c6fc7cddd2edde899fbc15a10"), looks := false }, kinds := [], alts := [], laidByText := true, laidKinds := [.data, .data, .pinned], laidTests := true, laidLooks := .later }
def GrantPlaysUptoCardSaid : Prop := Claim7.holds Tryz.pinned (.plain (OpenSpec.upto grantPlaysSpec)) grantPlaysUptoCard

/-- THE SECOND FORM's CARD OF 'arbaclaw13.GrantCovers'. -/
def grantCoversUptoCard : Claim7 := { stood := { row := grantCoversUptoRow, standIns := [], harness := (true, "40a2385cf1b244ad454b2f87b322e97a7c1c865c6fc7cddd2edde899fbc15a10"), looks := false }, kinds := [], alts := [], laidByText := true, laidKinds := [.data, .data, .pinned], laidTests := true, laidLooks := .later }
def GrantCoversUptoCardSaid : Prop := Claim7.holds Tryz.pinned (.plain (OpenSpec.upto grantCoversSpec)) grantCoversUptoCard

/-- THE SECOND FORM's CARD OF 'arbaclaw13.GrantEquals'. -/
def grantEqualsUptoCard : Claim7 := { stood := { row := grantEqualsUptoRow, standIns := [], harness := (true, "40a2385cf1b244ad454b2f87b322e97a7c1c865c6fc7cddd2edde899fbc15a10"), looks := false }, kinds := [], alts := [], laidByText := true, laidKinds := [.data, .data, .pinned], laidTests := true, laidLooks := .later }
def GrantEqualsUptoCardSaid : Prop := Claim7.holds Tryz.pinned (.plain (OpenSpec.upto grantEqualsSpec)) grantEqualsUptoCard

/-- THE SECOND FORM's CARD OF 'arbaclaw13.GrantOrder'. -/
def grantOrderUptoCard : Claim7 := { stood := { row := grantOrderUptoRow, standIns := [], harness := (true, "40a2385cf1b244ad454b2f87b322e97a7c1c865c6fc7cddd2edde899fbc15a10"), looks := false }, kinds := [], alts := [], laidByText := true, laidKinds := [.data, .data, .pinned], laidTests := true, laidLooks := .later }
def GrantOrderUptoCardSaid : Prop := Claim7.holds Tryz.pinned (.plain (OpenSpec.upto grantOrderSpec)) grantOrderUptoCard

/-- THE SECOND FORM's CARD OF 'arbaclaw13.GrantAll'. -/
def grantAllUptoCard : Claim7 := { stood := { row := grantAllUptoRow, standIns := [], harness := (true, "40a2385cf1b244ad454b2f87b322e97a7c1c865c6fc7cddd2edde899fbc15a10"), looks := false }, kinds := [], alts := [], laidByText := true, laidKinds := [.data, .data, .pinned], laidTests := true, laidLooks := .later }
def GrantAllUptoCardSaid : Prop := Claim7.holds Tryz.pinned (.plain (OpenSpec.upto grantAllSpec)) grantAllUptoCard

/-- THE SECOND FORM's CARD OF 'arbaclaw13.GrantNeeds'. -/
def grantNeedsUptoCard : Claim7 := { stood := { row := grantNeedsUptoRow, standIns := [], harness := (true, "40a2385cf1b244ad454b2f87b322e97a7c1c865c6fc7cddd2edde899fbc15a10"), looks := false }, kinds := [], alts := [], laidByText := true, laidKinds := [.data, .data, .pinned], laidTests := true, laidLooks := .later }
def GrantNeedsUptoCardSaid : Prop := Claim7.holds Tryz.pinned (.plain (OpenSpec.upto grantNeedsSpec)) grantNeedsUptoCard

/-- THE SECOND FORM's CARD OF 'arbaclaw13.GrantNil'. -/
def grantNilUptoCard : Claim7 := { stood := { row := grantNilUptoRow, standIns := [], harness := (true, "40a2385cf1b244ad454b2f87b322e97a7c1c865c6fc7cddd2edde899fbc15a10"), looks := false }, kinds := [], alts := [], laidByText := true, laidKinds := [.data, .data, .pinned], laidTests := true, laidLooks := .later }
def GrantNilUptoCardSaid : Prop := Claim7.holds Tryz.pinned (.plain (OpenSpec.upto grantNilSpec)) grantNilUptoCard

/-- THE SECOND FORM's CARD OF 'arbaclaw13.GrantBytes'. -/
def grantBytesUptoCard : Claim7 := { stood := { row := grantBytesUptoRow, standIns := [], harness := (true, "40a2385cf1b244ad454b2f87b322e97a7c1c865c6fc7cddd2edde899fbc15a10"), looks := false }, kinds := [], alts := [], laidByText := true, laidKinds := [.data, .data, .pinned], laidTests := true, laidLooks := .later }
def GrantBytesUptoCardSaid : Prop := Claim7.holds Tryz.pinned (.plain (OpenSpec.upto grantBytesSpec)) grantBytesUptoCard
end Rows
end Go.Proofs.YtndlnfdaeipifaaGreatDoor
