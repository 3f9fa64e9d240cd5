/-
  DERIVED. GIVEN WITH THE SEED: THE CARDS: each row of YtncmjgmlnnenhaaDoorRows.lean that lists a variable, with what it lists TIED to the program's text (the seventh form; the later family's looks); each row that meets fmt, with fmt's text TOLD by the authors' own Lean function (tested against real Go, not proved from fmt's source: count such statements apart). THE CARD IS WHAT COUNTS. Prove the row's statement (the work); the ties are given (YtncmjgmlnnenhaaDoorTie.lean); close each card by the builder's one call (the guide's Derived/Test/ToyasCard.lean, 'card_holds'). Laid BY PROGRAM, IN A SANDBOX (cutbox-door.mjs). By AI agents, Wed Nov 11 2026. No macro, syntax, notation, axiom, sorry.
-/
import Derived.Test.YtncmjgmlnnenhaaDoorRows
import GoSem.ClaimSeven
namespace Go.Proofs.YtncmjgmlnnenhaaDoor
namespace Rows

/-- THE TIED CARD OF 'arbaclaw22.SessionFills'. -/
def sessionFillsCard : Claim7 := { stood := { row := sessionFillsRow, standIns := [], harness := (true, "d7c768d97b7b62b38d9fa59bca8d18d38a27c37e5e5fa2f4e9883ad65ba054ec"), looks := false }, kinds := [], alts := [], laidByText := true, laidKinds := [.data], laidTests := true, laidLooks := .later }
def SessionFillsCardSaid : Prop := Claim7.holds Tryd.pinned (.plain (OpenSpec.ofChange sessionFillsSpec)) sessionFillsCard

/-- THE TIED CARD OF 'arbaclaw22.SessionEffective'. -/
def sessionEffectiveCard : Claim7 := { stood := { row := sessionEffectiveRow, standIns := [], harness := (true, "d7c768d97b7b62b38d9fa59bca8d18d38a27c37e5e5fa2f4e9883ad65ba054ec"), looks := false }, kinds := [], alts := [], laidByText := true, laidKinds := [.data], laidTests := true, laidLooks := .later }
def SessionEffectiveCardSaid : Prop := Claim7.holds Tryd.pinned (.plain (OpenSpec.ofChange sessionEffectiveSpec)) sessionEffectiveCard

/-- THE TIED CARD OF 'arbaclaw22.SessionGrows'. -/
def sessionGrowsCard : Claim7 := { stood := { row := sessionGrowsRow, standIns := [], harness := (true, "d7c768d97b7b62b38d9fa59bca8d18d38a27c37e5e5fa2f4e9883ad65ba054ec"), looks := false }, kinds := [], alts := [], laidByText := true, laidKinds := [.data], laidTests := true, laidLooks := .later }
def SessionGrowsCardSaid : Prop := Claim7.holds Tryd.pinned (.plain (OpenSpec.ofChange sessionGrowsSpec)) sessionGrowsCard

/-- THE TIED CARD OF 'arbaclaw22.SessionPlays'. -/
def sessionPlaysCard : Claim7 := { stood := { row := sessionPlaysRow, standIns := [], harness := (true, "d7c768d97b7b62b38d9fa59bca8d18d38a27c37e5e5fa2f4e9883ad65ba054ec"), looks := false }, kinds := [], alts := [], laidByText := true, laidKinds := [.data], laidTests := true, laidLooks := .later }
def SessionPlaysCardSaid : Prop := Claim7.holds Tryd.pinned (.plain (OpenSpec.ofChange sessionPlaysSpec)) sessionPlaysCard

/-- THE TIED CARD OF 'arbaclaw22.SessionNil'. -/
def sessionNilCard : Claim7 := { stood := { row := sessionNilRow, standIns := [], harness := (true, "d7c768d97b7b62b38d9fa59bca8d18d38a27c37e5e5fa2f4e9883ad65ba054ec"), looks := false }, kinds := [], alts := [], laidByText := true, laidKinds := [.data], laidTests := true, laidLooks := .later }
def SessionNilCardSaid : Prop := Claim7.holds Tryd.pinned (.plain (OpenSpec.ofChange sessionNilSpec)) sessionNilCard

/-- THE SECOND FORM's CARD OF 'arbaclaw22.SessionFills'. -/
def sessionFillsUptoCard : Claim7 := { stood := { row := sessionFillsUptoRow, standIns := [], harness := (true, "d7c768d97b7b62b38d9fa59bca8d18d38a27c37e5e5fa2f4e9883ad65ba054ec"), looks := false }, kinds := [], alts := [], laidByText := true, laidKinds := [.data], laidTests := true, laidLooks := .later }
def SessionFillsUptoCardSaid : Prop := Claim7.holds Tryd.pinned (.plain (OpenSpec.upto sessionFillsSpec)) sessionFillsUptoCard

/-- THE SECOND FORM's CARD OF 'arbaclaw22.SessionEffective'. -/
def sessionEffectiveUptoCard : Claim7 := { stood := { row := sessionEffectiveUptoRow, standIns := [], harness := (true, "d7c768d97b7b62b38d9fa59bca8d18d38a27c37e5e5fa2f4e9883ad65ba054ec"), looks := false }, kinds := [], alts := [], laidByText := true, laidKinds := [.data], laidTests := true, laidLooks := .later }
def SessionEffectiveUptoCardSaid : Prop := Claim7.holds Tryd.pinned (.plain (OpenSpec.upto sessionEffectiveSpec)) sessionEffectiveUptoCard

/-- THE SECOND FORM's CARD OF 'arbaclaw22.SessionGrows'. -/
def sessionGrowsUptoCard : Claim7 := { stood := { row := sessionGrowsUptoRow, standIns := [], harness := (true, "d7c768d97b7b62b38d9fa59bca8d18d38a27c37e5e5fa2f4e9883ad65ba054ec"), looks := false }, kinds := [], alts := [], laidByText := true, laidKinds := [.data], laidTests := true, laidLooks := .later }
def SessionGrowsUptoCardSaid : Prop := Claim7.holds Tryd.pinned (.plain (OpenSpec.upto sessionGrowsSpec)) sessionGrowsUptoCard

/-- THE SECOND FORM's CARD OF 'arbaclaw22.SessionPlays'. -/
def sessionPlaysUptoCard : Claim7 := { stood := { row := sessionPlaysUptoRow, standIns := [], harness := (true, "d7c768d97b7b62b38d9fa59bca8d18d38a27c37e5e5fa2f4e9883ad65ba054ec"), looks := false }, kinds := [], alts := [], laidByText := true, laidKinds := [.data], laidTests := true, laidLooks := .later }
def SessionPlaysUptoCardSaid : Prop := Claim7.holds Tryd.pinned (.plain (OpenSpec.upto sessionPlaysSpec)) sessionPlaysUptoCard

/-- THE SECOND FORM's CARD OF 'arbaclaw22.SessionNil'. -/
def sessionNilUptoCard : Claim7 := { stood := { row := sessionNilUptoRow, standIns := [], harness := (true, "d7c768d97b7b62b38d9fa59bca8d18d38a27c37e5e5fa2f4e9883ad65ba054ec"), looks := false }, kinds := [], alts := [], laidByText := true, laidKinds := [.data], laidTests := true, laidLooks := .later }
def SessionNilUptoCardSaid : Prop := Claim7.holds Tryd.pinned (.plain (OpenSpec.upto sessionNilSpec)) sessionNilUptoCard
end Rows
end Go.Proofs.YtncmjgmlnnenhaaDoor
