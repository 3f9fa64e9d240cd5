/-
  DERIVED. GIVEN WITH THE SEED: THE CARDS: each row of YtgnphpimkfcmlaaDoorRows.lean that lists a variable, with what it lists TIED to the program's text (the seventh form; the later family's looks); each row that meets fmt, with fmt's text TOLD by the authors' own Lean function (tested against real Go, not proved from fmt's source: count such statements apart). THE CARD IS WHAT COUNTS. Prove the row's statement (the work); the ties are given (YtgnphpimkfcmlaaDoorTie.lean); close each card by the builder's one call (the guide's Derived/Test/ToyasCard.lean, 'card_holds'). Laid BY PROGRAM, IN A SANDBOX (cutbox-door.mjs). By AI agents, Wed Nov 11 2026. No macro, syntax, notation, axiom, sorry.
-/
import Derived.Test.YtgnphpimkfcmlaaDoorRows
import GoSem.ClaimSeven
namespace Go.Proofs.YtgnphpimkfcmlaaDoor
namespace Rows

/-- THE TIED CARD OF 'arbaclaw11.PermissionChecks'. -/
def permissionChecksCard : Claim7 := { stood := { row := permissionChecksRow, standIns := [], harness := (true, "b953ad7455c25f224fe00ae57cc4c3aa75ce5cec5d98ae883123d00667411f9a"), looks := false }, kinds := [], alts := [], laidByText := true, laidKinds := [.data, .pinned], laidTests := true, laidLooks := .later }
def PermissionChecksCardSaid : Prop := Claim7.holds Tryd.pinned (.plain (OpenSpec.ofChange permissionChecksSpec)) permissionChecksCard

/-- THE TIED CARD OF 'arbaclaw11.PermissionCovers'. -/
def permissionCoversCard : Claim7 := { stood := { row := permissionCoversRow, standIns := [], harness := (true, "b953ad7455c25f224fe00ae57cc4c3aa75ce5cec5d98ae883123d00667411f9a"), looks := false }, kinds := [], alts := [], laidByText := true, laidKinds := [.data, .pinned], laidTests := true, laidLooks := .later }
def PermissionCoversCardSaid : Prop := Claim7.holds Tryd.pinned (.plain (OpenSpec.ofChange permissionCoversSpec)) permissionCoversCard

/-- THE TIED CARD OF 'arbaclaw11.PermissionImplies'. -/
def permissionImpliesCard : Claim7 := { stood := { row := permissionImpliesRow, standIns := [], harness := (true, "b953ad7455c25f224fe00ae57cc4c3aa75ce5cec5d98ae883123d00667411f9a"), looks := false }, kinds := [], alts := [], laidByText := true, laidKinds := [.data, .pinned], laidTests := true, laidLooks := .later }
def PermissionImpliesCardSaid : Prop := Claim7.holds Tryd.pinned (.plain (OpenSpec.ofChange permissionImpliesSpec)) permissionImpliesCard

/-- THE TIED CARD OF 'arbaclaw11.PermissionOrder'. -/
def permissionOrderCard : Claim7 := { stood := { row := permissionOrderRow, standIns := [], harness := (true, "b953ad7455c25f224fe00ae57cc4c3aa75ce5cec5d98ae883123d00667411f9a"), looks := false }, kinds := [], alts := [], laidByText := true, laidKinds := [.data, .pinned], laidTests := true, laidLooks := .later }
def PermissionOrderCardSaid : Prop := Claim7.holds Tryd.pinned (.plain (OpenSpec.ofChange permissionOrderSpec)) permissionOrderCard

/-- THE TIED CARD OF 'arbaclaw11.PermissionNormal'. -/
def permissionNormalCard : Claim7 := { stood := { row := permissionNormalRow, standIns := [], harness := (true, "b953ad7455c25f224fe00ae57cc4c3aa75ce5cec5d98ae883123d00667411f9a"), looks := false }, kinds := [], alts := [], laidByText := true, laidKinds := [.data, .pinned], laidTests := true, laidLooks := .later }
def PermissionNormalCardSaid : Prop := Claim7.holds Tryd.pinned (.plain (OpenSpec.ofChange permissionNormalSpec)) permissionNormalCard

/-- THE TIED CARD OF 'arbaclaw11.PermissionSame'. -/
def permissionSameCard : Claim7 := { stood := { row := permissionSameRow, standIns := [], harness := (true, "b953ad7455c25f224fe00ae57cc4c3aa75ce5cec5d98ae883123d00667411f9a"), looks := false }, kinds := [], alts := [], laidByText := true, laidKinds := [.data, .pinned], laidTests := true, laidLooks := .later }
def PermissionSameCardSaid : Prop := Claim7.holds Tryd.pinned (.plain (OpenSpec.ofChange permissionSameSpec)) permissionSameCard

/-- THE TIED CARD OF 'arbaclaw11.PermissionCommon'. -/
def permissionCommonCard : Claim7 := { stood := { row := permissionCommonRow, standIns := [], harness := (true, "b953ad7455c25f224fe00ae57cc4c3aa75ce5cec5d98ae883123d00667411f9a"), looks := false }, kinds := [], alts := [], laidByText := true, laidKinds := [.data, .pinned], laidTests := true, laidLooks := .later }
def PermissionCommonCardSaid : Prop := Claim7.holds Tryd.pinned (.plain (OpenSpec.ofChange permissionCommonSpec)) permissionCommonCard

/-- THE TIED CARD OF 'arbaclaw11.PermissionMinus'. -/
def permissionMinusCard : Claim7 := { stood := { row := permissionMinusRow, standIns := [], harness := (true, "b953ad7455c25f224fe00ae57cc4c3aa75ce5cec5d98ae883123d00667411f9a"), looks := false }, kinds := [], alts := [], laidByText := true, laidKinds := [.data, .pinned], laidTests := true, laidLooks := .later }
def PermissionMinusCardSaid : Prop := Claim7.holds Tryd.pinned (.plain (OpenSpec.ofChange permissionMinusSpec)) permissionMinusCard

/-- THE TIED CARD OF 'arbaclaw11.PermissionTexts'. -/
def permissionTextsCard : Claim7 := { stood := { row := permissionTextsRow, standIns := [], harness := (true, "b953ad7455c25f224fe00ae57cc4c3aa75ce5cec5d98ae883123d00667411f9a"), looks := false }, kinds := [], alts := [], laidByText := true, laidKinds := [.data, .pinned], laidTests := true, laidLooks := .later }
def PermissionTextsCardSaid : Prop := Claim7.holds Tryd.pinned (.plain (OpenSpec.ofChange permissionTextsSpec)) permissionTextsCard

/-- THE TIED CARD OF 'arbaclaw11.PermissionTree'. -/
def permissionTreeCard : Claim7 := { stood := { row := permissionTreeRow, standIns := [], harness := (true, "b953ad7455c25f224fe00ae57cc4c3aa75ce5cec5d98ae883123d00667411f9a"), looks := false }, kinds := [], alts := [], laidByText := true, laidKinds := [.data, .pinned], laidTests := true, laidLooks := .later }
def PermissionTreeCardSaid : Prop := Claim7.holds Tryd.pinned (.plain (OpenSpec.ofChange permissionTreeSpec)) permissionTreeCard

/-- THE SECOND FORM's CARD OF 'arbaclaw11.PermissionChecks'. -/
def permissionChecksUptoCard : Claim7 := { stood := { row := permissionChecksUptoRow, standIns := [], harness := (true, "b953ad7455c25f224fe00ae57cc4c3aa75ce5cec5d98ae883123d00667411f9a"), looks := false }, kinds := [], alts := [], laidByText := true, laidKinds := [.data, .pinned], laidTests := true, laidLooks := .later }
def PermissionChecksUptoCardSaid : Prop := Claim7.holds Tryd.pinned (.plain (OpenSpec.upto permissionChecksSpec)) permissionChecksUptoCard

/-- THE SECOND FORM's CARD OF 'arbaclaw11.PermissionCovers'. -/
def permissionCoversUptoCard : Claim7 := { stood := { row := permissionCoversUptoRow, standIns := [], harness := (true, "b953ad7455c25f224fe00ae57cc4c3aa75ce5cec5d98ae883123d00667411f9a"), looks := false }, kinds := [], alts := [], laidByText := true, laidKinds := [.data, .pinned], laidTests := true, laidLooks := .later }
def PermissionCoversUptoCardSaid : Prop := Claim7.holds Tryd.pinned (.plain (OpenSpec.upto permissionCoversSpec)) permissionCoversUptoCard

/-- THE SECOND FORM's CARD OF 'arbaclaw11.PermissionImplies'. -/
def permissionImpliesUptoCard : Claim7 := { stood := { row := permissionImpliesUptoRow, standIns := [], harness := (true, "b953ad7455c25f224fe00ae57cc4c3aa75ce5cec5d98ae883123d00667411f9a"), looks := false }, kinds := [], alts := [], laidByText := true, laidKinds := [.data, .pinned], laidTests := true, laidLooks := .later }
def PermissionImpliesUptoCardSaid : Prop := Claim7.holds Tryd.pinned (.plain (OpenSpec.upto permissionImpliesSpec)) permissionImpliesUptoCard

/-- THE SECOND FORM's CARD OF 'arbaclaw11.PermissionOrder'. -/
def permissionOrderUptoCard : Claim7 := { stood := { row := permissionOrderUptoRow, standIns := [], harness := (true, "b953ad7455c25f224fe00ae57cc4c3aa75ce5cec5d98ae883123d00667411f9a"), looks := false }, kinds := [], alts := [], laidByText := true, laidKinds := [.data, .pinned], laidTests := true, laidLooks := .later }
def PermissionOrderUptoCardSaid : Prop := Claim7.holds Tryd.pinned (.plain (OpenSpec.upto permissionOrderSpec)) permissionOrderUptoCard

/-- THE SECOND FORM's CARD OF 'arbaclaw11.PermissionNormal'. -/
def permissionNormalUptoCard : Claim7 := { stood := { row := permissionNormalUptoRow, standIns := [], harness := (true, "b953ad7455c25f224fe00ae57cc4c3aa75ce5cec5d98ae883123d00667411f9a"), looks := false }, kinds := [], alts := [], laidByText := true, laidKinds := [.data, .pinned], laidTests := true, laidLooks := .later }
def PermissionNormalUptoCardSaid : Prop := Claim7.holds Tryd.pinned (.plain (OpenSpec.upto permissionNormalSpec)) permissionNormalUptoCard

/-- THE SECOND FORM's CARD OF 'arbaclaw11.PermissionSame'. -/
def permissionSameUptoCard : Claim7 := { stood := { row := permissionSameUptoRow, standIns := [], harness := (true, "b953ad7455c25f224fe00ae57cc4c3aa75ce5cec5d98ae883123d00667411f9a"), looks := false }, kinds := [], alts := [], laidByText := true, laidKinds := [.data, .pinned], laidTests := true, laidLooks := .later }
def PermissionSameUptoCardSaid : Prop := Claim7.holds Tryd.pinned (.plain (OpenSpec.upto permissionSameSpec)) permissionSameUptoCard

/-- THE SECOND FORM's CARD OF 'arbaclaw11.PermissionCommon'. -/
def permissionCommonUptoCard : Claim7 := { stood := { row := permissionCommonUptoRow, standIns := [], harness := (true, "b953ad7455c25f224fe00ae57cc4c3aa75ce5cec5d98ae883123d00667411f9a"), looks := false }, kinds := [], alts := [], laidByText := true, laidKinds := [.data, .pinned], laidTests := true, laidLooks := .later }
def PermissionCommonUptoCardSaid : Prop := Claim7.holds Tryd.pinned (.plain (OpenSpec.upto permissionCommonSpec)) permissionCommonUptoCard

/-- THE SECOND FORM's CARD OF 'arbaclaw11.PermissionMinus'. -/
def permissionMinusUptoCard : Claim7 := { stood := { row := permissionMinusUptoRow, standIns := [], harness := (true, "b953ad7455c25f224fe00ae57cc4c3aa75ce5cec5d98ae883123d00667411f9a"), looks := false }, kinds := [], alts := [], laidByText := true, laidKinds := [.data, .pinned], laidTests := true, laidLooks := .later }
def PermissionMinusUptoCardSaid : Prop := Claim7.holds Tryd.pinned (.plain (OpenSpec.upto permissionMinusSpec)) permissionMinusUptoCard

/-- THE SECOND FORM's CARD OF 'arbaclaw11.PermissionTexts'. -/
def permissionTextsUptoCard : Claim7 := { stood := { row := permissionTextsUptoRow, standIns := [], harness := (true, "b953ad7455c25f224fe00ae57cc4c3aa75ce5cec5d98ae883123d00667411f9a"), looks := false }, kinds := [], alts := [], laidByText := true, laidKinds := [.data, .pinned], laidTests := true, laidLooks := .later }
def PermissionTextsUptoCardSaid : Prop := Claim7.holds Tryd.pinned (.plain (OpenSpec.upto permissionTextsSpec)) permissionTextsUptoCard

/-- THE SECOND FORM's CARD OF 'arbaclaw11.PermissionTree'. -/
def permissionTreeUptoCard : Claim7 := { stood := { row := permissionTreeUptoRow, standIns := [], harness := (true, "b953ad7455c25f224fe00ae57cc4c3aa75ce5cec5d98ae883123d00667411f9a"), looks := false }, kinds := [], alts := [], laidByText := true, laidKinds := [.data, .pinned], laidTests := true, laidLooks := .later }
def PermissionTreeUptoCardSaid : Prop := Claim7.holds Tryd.pinned (.plain (OpenSpec.upto permissionTreeSpec)) permissionTreeUptoCard
end Rows
end Go.Proofs.YtgnphpimkfcmlaaDoor
