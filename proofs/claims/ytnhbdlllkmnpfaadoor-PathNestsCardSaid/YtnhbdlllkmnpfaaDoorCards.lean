/-
  DERIVED. GIVEN WITH THE SEED: THE CARDS: each row of YtnhbdlllkmnpfaaDoorRows.lean that lists a variable, with what it lists TIED to the program's text (the seventh form; the later family's looks); each row that meets fmt, with fmt's text TOLD by the authors' own Lean function (tested against real Go, not proved from fmt's source: count such statements apart). THE CARD IS WHAT COUNTS. Prove the row's statement (the work); the ties are given (YtnhbdlllkmnpfaaDoorTie.lean); close each card by the builder's one call (the guide's Derived/Test/ToyasCard.lean, 'card_holds'). Laid BY PROGRAM, IN A SANDBOX (cutbox-door.mjs). By AI agents, Wed Nov 11 2026. No macro, syntax, notation, axiom, sorry.
-/
import Derived.Test.YtnhbdlllkmnpfaaDoorRows
import GoSem.ClaimSeven
namespace Go.Proofs.YtnhbdlllkmnpfaaDoor
namespace Rows

/-- THE TIED CARD OF 'arbaclaw07.PathWithin'. -/
def pathWithinCard : Claim7 := { stood := { row := pathWithinRow, standIns := [], harness := (true, "933f83b9f36d7740116fe06ec38f2a2943936120a9d56815f6e7071739d97321"), looks := true }, kinds := [], alts := [], laidByText := true, laidKinds := [.data, .pinned], laidTests := true, laidLooks := .later }
def PathWithinCardSaid : Prop := Claim7.holds Tryd.pinned (.plain (OpenSpec.ofChange pathWithinSpec)) pathWithinCard

/-- THE TIED CARD OF 'arbaclaw07.PathCompares'. -/
def pathComparesCard : Claim7 := { stood := { row := pathComparesRow, standIns := [], harness := (true, "933f83b9f36d7740116fe06ec38f2a2943936120a9d56815f6e7071739d97321"), looks := true }, kinds := [], alts := [], laidByText := true, laidKinds := [.data, .pinned], laidTests := true, laidLooks := .later }
def PathComparesCardSaid : Prop := Claim7.holds Tryd.pinned (.plain (OpenSpec.ofChange pathComparesSpec)) pathComparesCard

/-- THE TIED CARD OF 'arbaclaw07.PathOrders'. -/
def pathOrdersCard : Claim7 := { stood := { row := pathOrdersRow, standIns := [], harness := (true, "933f83b9f36d7740116fe06ec38f2a2943936120a9d56815f6e7071739d97321"), looks := true }, kinds := [], alts := [], laidByText := true, laidKinds := [.data, .pinned], laidTests := true, laidLooks := .later }
def PathOrdersCardSaid : Prop := Claim7.holds Tryd.pinned (.plain (OpenSpec.ofChange pathOrdersSpec)) pathOrdersCard

/-- THE TIED CARD OF 'arbaclaw07.PathTells'. -/
def pathTellsCard : Claim7 := { stood := { row := pathTellsRow, standIns := [], harness := (true, "933f83b9f36d7740116fe06ec38f2a2943936120a9d56815f6e7071739d97321"), looks := true }, kinds := [], alts := [], laidByText := true, laidKinds := [.data, .pinned], laidTests := true, laidLooks := .later }
def PathTellsCardSaid : Prop := Claim7.holds Tryd.pinned (.plain (OpenSpec.ofChange pathTellsSpec)) pathTellsCard

/-- THE TIED CARD OF 'arbaclaw07.PathTrees'. -/
def pathTreesCard : Claim7 := { stood := { row := pathTreesRow, standIns := [], harness := (true, "933f83b9f36d7740116fe06ec38f2a2943936120a9d56815f6e7071739d97321"), looks := true }, kinds := [], alts := [], laidByText := true, laidKinds := [.data, .pinned], laidTests := true, laidLooks := .later }
def PathTreesCardSaid : Prop := Claim7.holds Tryd.pinned (.plain (OpenSpec.ofChange pathTreesSpec)) pathTreesCard

/-- THE TIED CARD OF 'arbaclaw07.PathParents'. -/
def pathParentsCard : Claim7 := { stood := { row := pathParentsRow, standIns := [], harness := (true, "933f83b9f36d7740116fe06ec38f2a2943936120a9d56815f6e7071739d97321"), looks := true }, kinds := [], alts := [], laidByText := true, laidKinds := [.data, .pinned], laidTests := true, laidLooks := .later }
def PathParentsCardSaid : Prop := Claim7.holds Tryd.pinned (.plain (OpenSpec.ofChange pathParentsSpec)) pathParentsCard

/-- THE TIED CARD OF 'arbaclaw07.PathKeeps'. -/
def pathKeepsCard : Claim7 := { stood := { row := pathKeepsRow, standIns := [], harness := (true, "933f83b9f36d7740116fe06ec38f2a2943936120a9d56815f6e7071739d97321"), looks := true }, kinds := [], alts := [], laidByText := true, laidKinds := [.data, .pinned], laidTests := true, laidLooks := .later }
def PathKeepsCardSaid : Prop := Claim7.holds Tryd.pinned (.plain (OpenSpec.ofChange pathKeepsSpec)) pathKeepsCard

/-- THE TIED CARD OF 'arbaclaw07.PathNil'. -/
def pathNilCard : Claim7 := { stood := { row := pathNilRow, standIns := [], harness := (true, "933f83b9f36d7740116fe06ec38f2a2943936120a9d56815f6e7071739d97321"), looks := true }, kinds := [], alts := [], laidByText := true, laidKinds := [.data, .pinned], laidTests := true, laidLooks := .later }
def PathNilCardSaid : Prop := Claim7.holds Tryd.pinned (.plain (OpenSpec.ofChange pathNilSpec)) pathNilCard

/-- THE TIED CARD OF 'arbaclaw07.PathJoins'. -/
def pathJoinsCard : Claim7 := { stood := { row := pathJoinsRow, standIns := [], harness := (true, "933f83b9f36d7740116fe06ec38f2a2943936120a9d56815f6e7071739d97321"), looks := true }, kinds := [], alts := [], laidByText := true, laidKinds := [.data, .pinned], laidTests := true, laidLooks := .later }
def PathJoinsCardSaid : Prop := Claim7.holds Tryd.pinned (.plain (OpenSpec.ofChange pathJoinsSpec)) pathJoinsCard

/-- THE TIED CARD OF 'arbaclaw07.PathNests'. -/
def pathNestsCard : Claim7 := { stood := { row := pathNestsRow, standIns := [], harness := (true, "933f83b9f36d7740116fe06ec38f2a2943936120a9d56815f6e7071739d97321"), looks := true }, kinds := [], alts := [], laidByText := true, laidKinds := [.data, .pinned], laidTests := true, laidLooks := .later }
def PathNestsCardSaid : Prop := Claim7.holds Tryd.pinned (.plain (OpenSpec.ofChange pathNestsSpec)) pathNestsCard

/-- THE SECOND FORM's CARD OF 'arbaclaw07.PathWithin'. -/
def pathWithinUptoCard : Claim7 := { stood := { row := pathWithinUptoRow, standIns := [], harness := (true, "933f83b9f36d7740116fe06ec38f2a2943936120a9d56815f6e7071739d97321"), looks := true }, kinds := [], alts := [], laidByText := true, laidKinds := [.data, .pinned], laidTests := true, laidLooks := .later }
def PathWithinUptoCardSaid : Prop := Claim7.holds Tryd.pinned (.plain (OpenSpec.upto pathWithinSpec)) pathWithinUptoCard

/-- THE SECOND FORM's CARD OF 'arbaclaw07.PathCompares'. -/
def pathComparesUptoCard : Claim7 := { stood := { row := pathComparesUptoRow, standIns := [], harness := (true, "933f83b9f36d7740116fe06ec38f2a2943936120a9d56815f6e7071739d97321"), looks := true }, kinds := [], alts := [], laidByText := true, laidKinds := [.data, .pinned], laidTests := true, laidLooks := .later }
def PathComparesUptoCardSaid : Prop := Claim7.holds Tryd.pinned (.plain (OpenSpec.upto pathComparesSpec)) pathComparesUptoCard

/-- THE SECOND FORM's CARD OF 'arbaclaw07.PathOrders'. -/
def pathOrdersUptoCard : Claim7 := { stood := { row := pathOrdersUptoRow, standIns := [], harness := (true, "933f83b9f36d7740116fe06ec38f2a2943936120a9d56815f6e7071739d97321"), looks := true }, kinds := [], alts := [], laidByText := true, laidKinds := [.data, .pinned], laidTests := true, laidLooks := .later }
def PathOrdersUptoCardSaid : Prop := Claim7.holds Tryd.pinned (.plain (OpenSpec.upto pathOrdersSpec)) pathOrdersUptoCard

/-- THE SECOND FORM's CARD OF 'arbaclaw07.PathTells'. -/
def pathTellsUptoCard : Claim7 := { stood := { row := pathTellsUptoRow, standIns := [], harness := (true, "933f83b9f36d7740116fe06ec38f2a2943936120a9d56815f6e7071739d97321"), looks := true }, kinds := [], alts := [], laidByText := true, laidKinds := [.data, .pinned], laidTests := true, laidLooks := .later }
def PathTellsUptoCardSaid : Prop := Claim7.holds Tryd.pinned (.plain (OpenSpec.upto pathTellsSpec)) pathTellsUptoCard

/-- THE SECOND FORM's CARD OF 'arbaclaw07.PathTrees'. -/
def pathTreesUptoCard : Claim7 := { stood := { row := pathTreesUptoRow, standIns := [], harness := (true, "933f83b9f36d7740116fe06ec38f2a2943936120a9d56815f6e7071739d97321"), looks := true }, kinds := [], alts := [], laidByText := true, laidKinds := [.data, .pinned], laidTests := true, laidLooks := .later }
def PathTreesUptoCardSaid : Prop := Claim7.holds Tryd.pinned (.plain (OpenSpec.upto pathTreesSpec)) pathTreesUptoCard

/-- THE SECOND FORM's CARD OF 'arbaclaw07.PathParents'. -/
def pathParentsUptoCard : Claim7 := { stood := { row := pathParentsUptoRow, standIns := [], harness := (true, "933f83b9f36d7740116fe06ec38f2a2943936120a9d56815f6e7071739d97321"), looks := true }, kinds := [], alts := [], laidByText := true, laidKinds := [.data, .pinned], laidTests := true, laidLooks := .later }
def PathParentsUptoCardSaid : Prop := Claim7.holds Tryd.pinned (.plain (OpenSpec.upto pathParentsSpec)) pathParentsUptoCard

/-- THE SECOND FORM's CARD OF 'arbaclaw07.PathKeeps'. -/
def pathKeepsUptoCard : Claim7 := { stood := { row := pathKeepsUptoRow, standIns := [], harness := (true, "933f83b9f36d7740116fe06ec38f2a2943936120a9d56815f6e7071739d97321"), looks := true }, kinds := [], alts := [], laidByText := true, laidKinds := [.data, .pinned], laidTests := true, laidLooks := .later }
def PathKeepsUptoCardSaid : Prop := Claim7.holds Tryd.pinned (.plain (OpenSpec.upto pathKeepsSpec)) pathKeepsUptoCard

/-- THE SECOND FORM's CARD OF 'arbaclaw07.PathNil'. -/
def pathNilUptoCard : Claim7 := { stood := { row := pathNilUptoRow, standIns := [], harness := (true, "933f83b9f36d7740116fe06ec38f2a2943936120a9d56815f6e7071739d97321"), looks := true }, kinds := [], alts := [], laidByText := true, laidKinds := [.data, .pinned], laidTests := true, laidLooks := .later }
def PathNilUptoCardSaid : Prop := Claim7.holds Tryd.pinned (.plain (OpenSpec.upto pathNilSpec)) pathNilUptoCard

/-- THE SECOND FORM's CARD OF 'arbaclaw07.PathJoins'. -/
def pathJoinsUptoCard : Claim7 := { stood := { row := pathJoinsUptoRow, standIns := [], harness := (true, "933f83b9f36d7740116fe06ec38f2a2943936120a9d56815f6e7071739d97321"), looks := true }, kinds := [], alts := [], laidByText := true, laidKinds := [.data, .pinned], laidTests := true, laidLooks := .later }
def PathJoinsUptoCardSaid : Prop := Claim7.holds Tryd.pinned (.plain (OpenSpec.upto pathJoinsSpec)) pathJoinsUptoCard

/-- THE SECOND FORM's CARD OF 'arbaclaw07.PathNests'. -/
def pathNestsUptoCard : Claim7 := { stood := { row := pathNestsUptoRow, standIns := [], harness := (true, "933f83b9f36d7740116fe06ec38f2a2943936120a9d56815f6e7071739d97321"), looks := true }, kinds := [], alts := [], laidByText := true, laidKinds := [.data, .pinned], laidTests := true, laidLooks := .later }
def PathNestsUptoCardSaid : Prop := Claim7.holds Tryd.pinned (.plain (OpenSpec.upto pathNestsSpec)) pathNestsUptoCard
end Rows
end Go.Proofs.YtnhbdlllkmnpfaaDoor
