/-
  NARROWER THAN 'FOR EVERY INPUT', by the rows' own cells (each row's printed sentence says how): PathWithin: laid · PathCompares: laid · PathOrders: laid · PathTells: laid · PathTrees: laid · PathParents: laid · PathKeeps: laid · PathNil: laid · PathJoins: laid · PathNests: laid.
  DERIVED. THE GIVEN ROWS OF THIS SEAT. 10 by the template 'for every input the law returns true; each argument reads behind the call as it read before'; 0 by the template 'total and deterministic' (their statements: YtnhbdlllkmnpfaaDoorTotals.lean).
  GIVEN WITH THE SEED: the statements are not yours to turn. If you find one false, say at which input.
  Laid BY PROGRAM, IN A SANDBOX (cutbox-rows.mjs): the forced cells as the released guide's own fill.sh prints them over the translation ae7d7a2a7da4a7f4… (all of the seat's roots in one cut). By AI agents, Wed Nov 11 2026. No macro, syntax, notation, axiom, sorry.
-/
import Derived.Test.YtnhbdlllkmnpfaaDoorChecked
import GoSem.PinnedTables
import GoSem.Claim
import GoSem.ClaimJoined
import GoSem.ClaimMapViews
import Derived.JoinedTies
import Derived.KernelRfl
namespace Go.Proofs.YtnhbdlllkmnpfaaDoor
/- THE CELL 'sum', in the pinned program and in every row, IS THE sha256 OF THE DUMP (.gsa) THAT YtnhbdlllkmnpfaaDoorProg.lean LOADS. Nothing in Lean hashes anything: it is a label: what it is worth is what the hold of that sum in a sandbox is worth. -/
noncomputable def Tryd.pinned : Pinned := { name := "ytnhbdlllkmnpfaadoor", sum := "ae7d7a2a7da4a7f4eaf02ba6f11602c35607d2c50de44da91e64e5d0b474a06c", checked := Tryd.checked }
namespace Rows
def none {H : Type} : Left H := { results := [], args := [] }

/- WHAT THE LISTED PACKAGE-LEVEL VARIABLES READ AS WHEN THE CALL BEGINS. Each datum BY PROGRAM (the guide's laid-datum.mjs) off the statement by which the dump's own 'gosem.cut.vars' lays the variable. In a bare row this is a premise. The card (YtnhbdlllkmnpfaaDoorCards.lean) ties it to the program's text. -/
def laid_unicode_utf8_acceptRanges {H : Type} : DataW H := .agg [.agg [.lit (.int .u8 128), .lit (.int .u8 191)], .agg [.lit (.int .u8 160), .lit (.int .u8 191)], .agg [.lit (.int .u8 128), .lit (.int .u8 159)], .agg [.lit (.int .u8 144), .lit (.int .u8 191)], .agg [.lit (.int .u8 128), .lit (.int .u8 143)], .agg [.lit (.int .u8 0), .lit (.int .u8 0)], .agg [.lit (.int .u8 0), .lit (.int .u8 0)], .agg [.lit (.int .u8 0), .lit (.int .u8 0)], .agg [.lit (.int .u8 0), .lit (.int .u8 0)], .agg [.lit (.int .u8 0), .lit (.int .u8 0)], .agg [.lit (.int .u8 0), .lit (.int .u8 0)], .agg [.lit (.int .u8 0), .lit (.int .u8 0)], .agg [.lit (.int .u8 0), .lit (.int .u8 0)], .agg [.lit (.int .u8 0), .lit (.int .u8 0)], .agg [.lit (.int .u8 0), .lit (.int .u8 0)], .agg [.lit (.int .u8 0), .lit (.int .u8 0)]]
/-- One of Go's own tables, pinned by name: the form's constant. -/
def laid_unicode_utf8_first : DataW Unit := Go.Pinned.utf8First

/-- 'arbaclaw07.PathWithin': WHATEVER THE INPUT: true; the input reads as it did. -/
def pathWithinSpec : ChangeSpec := { name := "pathWithin", fn := fun _ => fun
  | [d1, d2] => { results := [.lit (.bool true)], args := [d1, d2] }
  | _ => none }
def pathWithinRow : OpenClaim := { program := "ytnhbdlllkmnpfaadoor", sum := "ae7d7a2a7da4a7f4eaf02ba6f11602c35607d2c50de44da91e64e5d0b474a06c", func := "arbac/arbaclaw07.PathWithin", spec := "pathWithin", inPlace := ["internal/bytealg.CountString", "internal/bytealg.IndexByteString", "internal/bytealg.IndexString", "internal/abi.NoEscape", "internal/bytealg.MakeNoZero", "maps.clone"], unfollowed := true, recurses := true, named := ["unicode/utf8.first", "unicode/utf8.acceptRanges", "internal/bytealg.MaxLen"], apart := false, laid := [("unicode/utf8.acceptRanges", laid_unicode_utf8_acceptRanges), ("unicode/utf8.first", laid_unicode_utf8_first)] }
def PathWithinSaid : Prop := pathWithinRow.holds Tryd.pinned (OpenSpec.ofChange pathWithinSpec)

/-- ITS FALSE NEIGHBOUR: 'it returns false'. Refute it at one input. -/
def pathWithinWrong : ChangeSpec := { name := "pathWithin", fn := fun _ => fun
  | [d1, d2] => { results := [.lit (.bool false)], args := [d1, d2] }
  | _ => none }
def PathWithinWrongFalsely : Prop := pathWithinRow.holds Tryd.pinned (OpenSpec.ofChange pathWithinWrong)

/-- 'arbaclaw07.PathCompares': WHATEVER THE INPUT: true; the input reads as it did. -/
def pathComparesSpec : ChangeSpec := { name := "pathCompares", fn := fun _ => fun
  | [d1, d2] => { results := [.lit (.bool true)], args := [d1, d2] }
  | _ => none }
def pathComparesRow : OpenClaim := { program := "ytnhbdlllkmnpfaadoor", sum := "ae7d7a2a7da4a7f4eaf02ba6f11602c35607d2c50de44da91e64e5d0b474a06c", func := "arbac/arbaclaw07.PathCompares", spec := "pathCompares", inPlace := ["internal/bytealg.CountString", "internal/bytealg.IndexByteString", "internal/bytealg.IndexString", "internal/abi.NoEscape", "internal/bytealg.MakeNoZero", "maps.clone"], unfollowed := true, recurses := true, named := ["unicode/utf8.first", "unicode/utf8.acceptRanges", "internal/bytealg.MaxLen"], apart := false, laid := [("unicode/utf8.acceptRanges", laid_unicode_utf8_acceptRanges), ("unicode/utf8.first", laid_unicode_utf8_first)] }
def PathComparesSaid : Prop := pathComparesRow.holds Tryd.pinned (OpenSpec.ofChange pathComparesSpec)

/-- ITS FALSE NEIGHBOUR: 'it returns false'. Refute it at one input. -/
def pathComparesWrong : ChangeSpec := { name := "pathCompares", fn := fun _ => fun
  | [d1, d2] => { results := [.lit (.bool false)], args := [d1, d2] }
  | _ => none }
def PathComparesWrongFalsely : Prop := pathComparesRow.holds Tryd.pinned (OpenSpec.ofChange pathComparesWrong)

/-- 'arbaclaw07.PathOrders': WHATEVER THE INPUT: true; the input reads as it did. -/
def pathOrdersSpec : ChangeSpec := { name := "pathOrders", fn := fun _ => fun
  | [d] => { results := [.lit (.bool true)], args := [d] }
  | _ => none }
def pathOrdersRow : OpenClaim := { program := "ytnhbdlllkmnpfaadoor", sum := "ae7d7a2a7da4a7f4eaf02ba6f11602c35607d2c50de44da91e64e5d0b474a06c", func := "arbac/arbaclaw07.PathOrders", spec := "pathOrders", inPlace := ["internal/bytealg.CountString", "internal/bytealg.IndexByteString", "internal/bytealg.IndexString", "internal/abi.NoEscape", "internal/bytealg.MakeNoZero", "maps.clone"], unfollowed := true, recurses := true, named := ["unicode/utf8.first", "unicode/utf8.acceptRanges", "internal/bytealg.MaxLen"], apart := false, laid := [("unicode/utf8.acceptRanges", laid_unicode_utf8_acceptRanges), ("unicode/utf8.first", laid_unicode_utf8_first)] }
def PathOrdersSaid : Prop := pathOrdersRow.holds Tryd.pinned (OpenSpec.ofChange pathOrdersSpec)

/-- ITS FALSE NEIGHBOUR: 'it returns false'. Refute it at one input. -/
def pathOrdersWrong : ChangeSpec := { name := "pathOrders", fn := fun _ => fun
  | [d] => { results := [.lit (.bool false)], args := [d] }
  | _ => none }
def PathOrdersWrongFalsely : Prop := pathOrdersRow.holds Tryd.pinned (OpenSpec.ofChange pathOrdersWrong)

/-- 'arbaclaw07.PathTells': WHATEVER THE INPUT: true; the input reads as it did. -/
def pathTellsSpec : ChangeSpec := { name := "pathTells", fn := fun _ => fun
  | [d] => { results := [.lit (.bool true)], args := [d] }
  | _ => none }
def pathTellsRow : OpenClaim := { program := "ytnhbdlllkmnpfaadoor", sum := "ae7d7a2a7da4a7f4eaf02ba6f11602c35607d2c50de44da91e64e5d0b474a06c", func := "arbac/arbaclaw07.PathTells", spec := "pathTells", inPlace := ["internal/bytealg.CountString", "internal/bytealg.IndexByteString", "internal/bytealg.IndexString", "internal/abi.NoEscape", "internal/bytealg.MakeNoZero", "maps.clone"], unfollowed := true, recurses := true, named := ["unicode/utf8.first", "unicode/utf8.acceptRanges", "internal/bytealg.MaxLen"], apart := false, laid := [("unicode/utf8.acceptRanges", laid_unicode_utf8_acceptRanges), ("unicode/utf8.first", laid_unicode_utf8_first)] }
def PathTellsSaid : Prop := pathTellsRow.holds Tryd.pinned (OpenSpec.ofChange pathTellsSpec)

/-- ITS FALSE NEIGHBOUR: 'it returns false'. Refute it at one input. -/
def pathTellsWrong : ChangeSpec := { name := "pathTells", fn := fun _ => fun
  | [d] => { results := [.lit (.bool false)], args := [d] }
  | _ => none }
def PathTellsWrongFalsely : Prop := pathTellsRow.holds Tryd.pinned (OpenSpec.ofChange pathTellsWrong)

/-- 'arbaclaw07.PathTrees': WHATEVER THE INPUT: true; the input reads as it did. -/
def pathTreesSpec : ChangeSpec := { name := "pathTrees", fn := fun _ => fun
  | [d1, d2] => { results := [.lit (.bool true)], args := [d1, d2] }
  | _ => none }
def pathTreesRow : OpenClaim := { program := "ytnhbdlllkmnpfaadoor", sum := "ae7d7a2a7da4a7f4eaf02ba6f11602c35607d2c50de44da91e64e5d0b474a06c", func := "arbac/arbaclaw07.PathTrees", spec := "pathTrees", inPlace := ["internal/bytealg.CountString", "internal/bytealg.IndexByteString", "internal/bytealg.IndexString", "internal/abi.NoEscape", "internal/bytealg.MakeNoZero", "maps.clone"], unfollowed := true, recurses := true, named := ["unicode/utf8.first", "unicode/utf8.acceptRanges", "internal/bytealg.MaxLen"], apart := false, laid := [("unicode/utf8.acceptRanges", laid_unicode_utf8_acceptRanges), ("unicode/utf8.first", laid_unicode_utf8_first)] }
def PathTreesSaid : Prop := pathTreesRow.holds Tryd.pinned (OpenSpec.ofChange pathTreesSpec)

/-- ITS FALSE NEIGHBOUR: 'it returns false'. Refute it at one input. -/
def pathTreesWrong : ChangeSpec := { name := "pathTrees", fn := fun _ => fun
  | [d1, d2] => { results := [.lit (.bool false)], args := [d1, d2] }
  | _ => none }
def PathTreesWrongFalsely : Prop := pathTreesRow.holds Tryd.pinned (OpenSpec.ofChange pathTreesWrong)

/-- 'arbaclaw07.PathParents': WHATEVER THE INPUT: true; the input reads as it did. -/
def pathParentsSpec : ChangeSpec := { name := "pathParents", fn := fun _ => fun
  | [d] => { results := [.lit (.bool true)], args := [d] }
  | _ => none }
def pathParentsRow : OpenClaim := { program := "ytnhbdlllkmnpfaadoor", sum := "ae7d7a2a7da4a7f4eaf02ba6f11602c35607d2c50de44da91e64e5d0b474a06c", func := "arbac/arbaclaw07.PathParents", spec := "pathParents", inPlace := ["internal/bytealg.CountString", "internal/bytealg.IndexByteString", "internal/bytealg.IndexString", "internal/abi.NoEscape", "internal/bytealg.MakeNoZero", "maps.clone"], unfollowed := true, recurses := true, named := ["unicode/utf8.first", "unicode/utf8.acceptRanges", "internal/bytealg.MaxLen"], apart := false, laid := [("unicode/utf8.acceptRanges", laid_unicode_utf8_acceptRanges), ("unicode/utf8.first", laid_unicode_utf8_first)] }
def PathParentsSaid : Prop := pathParentsRow.holds Tryd.pinned (OpenSpec.ofChange pathParentsSpec)

/-- ITS FALSE NEIGHBOUR: 'it returns false'. Refute it at one input. -/
def pathParentsWrong : ChangeSpec := { name := "pathParents", fn := fun _ => fun
  | [d] => { results := [.lit (.bool false)], args := [d] }
  | _ => none }
def PathParentsWrongFalsely : Prop := pathParentsRow.holds Tryd.pinned (OpenSpec.ofChange pathParentsWrong)

/-- 'arbaclaw07.PathKeeps': WHATEVER THE INPUT: true; the input reads as it did. -/
def pathKeepsSpec : ChangeSpec := { name := "pathKeeps", fn := fun _ => fun
  | [d1, d2, d3] => { results := [.lit (.bool true)], args := [d1, d2, d3] }
  | _ => none }
def pathKeepsRow : OpenClaim := { program := "ytnhbdlllkmnpfaadoor", sum := "ae7d7a2a7da4a7f4eaf02ba6f11602c35607d2c50de44da91e64e5d0b474a06c", func := "arbac/arbaclaw07.PathKeeps", spec := "pathKeeps", inPlace := ["internal/bytealg.CountString", "internal/bytealg.IndexByteString", "internal/bytealg.IndexString", "internal/abi.NoEscape", "internal/bytealg.MakeNoZero", "maps.clone"], unfollowed := true, recurses := true, named := ["unicode/utf8.first", "unicode/utf8.acceptRanges", "internal/bytealg.MaxLen"], apart := false, laid := [("unicode/utf8.acceptRanges", laid_unicode_utf8_acceptRanges), ("unicode/utf8.first", laid_unicode_utf8_first)] }
def PathKeepsSaid : Prop := pathKeepsRow.holds Tryd.pinned (OpenSpec.ofChange pathKeepsSpec)

/-- ITS FALSE NEIGHBOUR: 'it returns false'. Refute it at one input. -/
def pathKeepsWrong : ChangeSpec := { name := "pathKeeps", fn := fun _ => fun
  | [d1, d2, d3] => { results := [.lit (.bool false)], args := [d1, d2, d3] }
  | _ => none }
def PathKeepsWrongFalsely : Prop := pathKeepsRow.holds Tryd.pinned (OpenSpec.ofChange pathKeepsWrong)

/-- 'arbaclaw07.PathNil': WHATEVER THE INPUT: true; the input reads as it did. -/
def pathNilSpec : ChangeSpec := { name := "pathNil", fn := fun _ => fun
  | [d] => { results := [.lit (.bool true)], args := [d] }
  | _ => none }
def pathNilRow : OpenClaim := { program := "ytnhbdlllkmnpfaadoor", sum := "ae7d7a2a7da4a7f4eaf02ba6f11602c35607d2c50de44da91e64e5d0b474a06c", func := "arbac/arbaclaw07.PathNil", spec := "pathNil", inPlace := ["internal/bytealg.CountString", "internal/bytealg.IndexByteString", "internal/bytealg.IndexString", "internal/abi.NoEscape", "internal/bytealg.MakeNoZero", "maps.clone"], unfollowed := true, recurses := true, named := ["unicode/utf8.first", "unicode/utf8.acceptRanges", "internal/bytealg.MaxLen"], apart := false, laid := [("unicode/utf8.acceptRanges", laid_unicode_utf8_acceptRanges), ("unicode/utf8.first", laid_unicode_utf8_first)] }
def PathNilSaid : Prop := pathNilRow.holds Tryd.pinned (OpenSpec.ofChange pathNilSpec)

/-- ITS FALSE NEIGHBOUR: 'it returns false'. Refute it at one input. -/
def pathNilWrong : ChangeSpec := { name := "pathNil", fn := fun _ => fun
  | [d] => { results := [.lit (.bool false)], args := [d] }
  | _ => none }
def PathNilWrongFalsely : Prop := pathNilRow.holds Tryd.pinned (OpenSpec.ofChange pathNilWrong)

/-- 'arbaclaw07.PathJoins': WHATEVER THE INPUT: true; the input reads as it did. -/
def pathJoinsSpec : ChangeSpec := { name := "pathJoins", fn := fun _ => fun
  | [d] => { results := [.lit (.bool true)], args := [d] }
  | _ => none }
def pathJoinsRow : OpenClaim := { program := "ytnhbdlllkmnpfaadoor", sum := "ae7d7a2a7da4a7f4eaf02ba6f11602c35607d2c50de44da91e64e5d0b474a06c", func := "arbac/arbaclaw07.PathJoins", spec := "pathJoins", inPlace := ["internal/bytealg.CountString", "internal/bytealg.IndexByteString", "internal/bytealg.IndexString", "internal/abi.NoEscape", "internal/bytealg.MakeNoZero", "maps.clone"], unfollowed := true, recurses := true, named := ["unicode/utf8.first", "unicode/utf8.acceptRanges", "internal/bytealg.MaxLen"], apart := false, laid := [("unicode/utf8.acceptRanges", laid_unicode_utf8_acceptRanges), ("unicode/utf8.first", laid_unicode_utf8_first)] }
def PathJoinsSaid : Prop := pathJoinsRow.holds Tryd.pinned (OpenSpec.ofChange pathJoinsSpec)

/-- ITS FALSE NEIGHBOUR: 'it returns false'. Refute it at one input. -/
def pathJoinsWrong : ChangeSpec := { name := "pathJoins", fn := fun _ => fun
  | [d] => { results := [.lit (.bool false)], args := [d] }
  | _ => none }
def PathJoinsWrongFalsely : Prop := pathJoinsRow.holds Tryd.pinned (OpenSpec.ofChange pathJoinsWrong)

/-- 'arbaclaw07.PathNests': WHATEVER THE INPUT: true; the input reads as it did. -/
def pathNestsSpec : ChangeSpec := { name := "pathNests", fn := fun _ => fun
  | [d] => { results := [.lit (.bool true)], args := [d] }
  | _ => none }
def pathNestsRow : OpenClaim := { program := "ytnhbdlllkmnpfaadoor", sum := "ae7d7a2a7da4a7f4eaf02ba6f11602c35607d2c50de44da91e64e5d0b474a06c", func := "arbac/arbaclaw07.PathNests", spec := "pathNests", inPlace := ["internal/bytealg.CountString", "internal/bytealg.IndexByteString", "internal/bytealg.IndexString", "internal/abi.NoEscape", "internal/bytealg.MakeNoZero", "maps.clone"], unfollowed := true, recurses := true, named := ["unicode/utf8.first", "unicode/utf8.acceptRanges", "internal/bytealg.MaxLen"], apart := false, laid := [("unicode/utf8.acceptRanges", laid_unicode_utf8_acceptRanges), ("unicode/utf8.first", laid_unicode_utf8_first)] }
def PathNestsSaid : Prop := pathNestsRow.holds Tryd.pinned (OpenSpec.ofChange pathNestsSpec)

/-- ITS FALSE NEIGHBOUR: 'it returns false'. Refute it at one input. -/
def pathNestsWrong : ChangeSpec := { name := "pathNests", fn := fun _ => fun
  | [d] => { results := [.lit (.bool false)], args := [d] }
  | _ => none }
def PathNestsWrongFalsely : Prop := pathNestsRow.holds Tryd.pinned (OpenSpec.ofChange pathNestsWrong)

/- THE SECOND FORM. 'bulk': how many values and letters a reading holds, each counted each time it is reached (what is shared counts as often as it is met; a slice's spare places count too). A statement '..UptoSaid' is the law's where the arguments, and the package variables that the reading takes, are together of bulk at most 1048576: NARROWER than '..Said'. Prove '..Said' where nothing that the law and all that it calls make is longer than what came in: it says more and counts as full. Else prove '..UptoSaid'. A law counts once. -/
mutual
def uptoBulk {H : Type} : DataW H → Nat
  | .lit (.string bytes) => bytes.length + 1
  | .lit _ => 1
  | .nil => 1
  | .ptr d => uptoBulk d + 1
  | .slice elems spare => uptoBulkAll elems + uptoBulkAll spare + 1
  | .agg parts => uptoBulkAll parts + 1
  | .iface _ d => uptoBulk d + 1
  | .map entries => uptoBulkEntries entries + 1
  | .held _ => 1
def uptoBulkAll {H : Type} : List (DataW H) → Nat
  | [] => 0
  | d :: r => uptoBulk d + uptoBulkAll r
def uptoBulkEntries {H : Type} : List (Lit × DataW H) → Nat
  | [] => 0
  | x :: r => uptoBulkEntry x + uptoBulkEntries r
def uptoBulkEntry {H : Type} : Lit × DataW H → Nat
  | (.string bytes, d) => bytes.length + uptoBulk d + 1
  | (_, d) => uptoBulk d + 1
 end
def uptoSmall : (H : Type) → List (DataW H) → Bool := fun _ ds => decide (uptoBulkAll ds ≤ 1048576)
def OpenSpec.upto (s : _root_.Go.ChangeSpec) : _root_.Go.OpenSpec := { _root_.Go.OpenSpec.ofChange s with cond := some uptoSmall }

/-- 'arbaclaw07.PathWithin', WHERE WHAT IT READS IS OF BULK AT MOST 1048576: true; the input reads as it did. -/
def pathWithinUptoRow : OpenClaim := { program := "ytnhbdlllkmnpfaadoor", sum := "ae7d7a2a7da4a7f4eaf02ba6f11602c35607d2c50de44da91e64e5d0b474a06c", func := "arbac/arbaclaw07.PathWithin", spec := "pathWithin", inPlace := ["internal/bytealg.CountString", "internal/bytealg.IndexByteString", "internal/bytealg.IndexString", "internal/abi.NoEscape", "internal/bytealg.MakeNoZero", "maps.clone"], unfollowed := true, recurses := true, named := ["unicode/utf8.first", "unicode/utf8.acceptRanges", "internal/bytealg.MaxLen"], apart := false, laid := [("unicode/utf8.acceptRanges", laid_unicode_utf8_acceptRanges), ("unicode/utf8.first", laid_unicode_utf8_first)], narrowed := true }
def PathWithinUptoSaid : Prop := pathWithinUptoRow.holds Tryd.pinned (OpenSpec.upto pathWithinSpec)

/-- 'arbaclaw07.PathCompares', WHERE WHAT IT READS IS OF BULK AT MOST 1048576: true; the input reads as it did. -/
def pathComparesUptoRow : OpenClaim := { program := "ytnhbdlllkmnpfaadoor", sum := "ae7d7a2a7da4a7f4eaf02ba6f11602c35607d2c50de44da91e64e5d0b474a06c", func := "arbac/arbaclaw07.PathCompares", spec := "pathCompares", inPlace := ["internal/bytealg.CountString", "internal/bytealg.IndexByteString", "internal/bytealg.IndexString", "internal/abi.NoEscape", "internal/bytealg.MakeNoZero", "maps.clone"], unfollowed := true, recurses := true, named := ["unicode/utf8.first", "unicode/utf8.acceptRanges", "internal/bytealg.MaxLen"], apart := false, laid := [("unicode/utf8.acceptRanges", laid_unicode_utf8_acceptRanges), ("unicode/utf8.first", laid_unicode_utf8_first)], narrowed := true }
def PathComparesUptoSaid : Prop := pathComparesUptoRow.holds Tryd.pinned (OpenSpec.upto pathComparesSpec)

/-- 'arbaclaw07.PathOrders', WHERE WHAT IT READS IS OF BULK AT MOST 1048576: true; the input reads as it did. -/
def pathOrdersUptoRow : OpenClaim := { program := "ytnhbdlllkmnpfaadoor", sum := "ae7d7a2a7da4a7f4eaf02ba6f11602c35607d2c50de44da91e64e5d0b474a06c", func := "arbac/arbaclaw07.PathOrders", spec := "pathOrders", inPlace := ["internal/bytealg.CountString", "internal/bytealg.IndexByteString", "internal/bytealg.IndexString", "internal/abi.NoEscape", "internal/bytealg.MakeNoZero", "maps.clone"], unfollowed := true, recurses := true, named := ["unicode/utf8.first", "unicode/utf8.acceptRanges", "internal/bytealg.MaxLen"], apart := false, laid := [("unicode/utf8.acceptRanges", laid_unicode_utf8_acceptRanges), ("unicode/utf8.first", laid_unicode_utf8_first)], narrowed := true }
def PathOrdersUptoSaid : Prop := pathOrdersUptoRow.holds Tryd.pinned (OpenSpec.upto pathOrdersSpec)

/-- 'arbaclaw07.PathTells', WHERE WHAT IT READS IS OF BULK AT MOST 1048576: true; the input reads as it did. -/
def pathTellsUptoRow : OpenClaim := { program := "ytnhbdlllkmnpfaadoor", sum := "ae7d7a2a7da4a7f4eaf02ba6f11602c35607d2c50de44da91e64e5d0b474a06c", func := "arbac/arbaclaw07.PathTells", spec := "pathTells", inPlace := ["internal/bytealg.CountString", "internal/bytealg.IndexByteString", "internal/bytealg.IndexString", "internal/abi.NoEscape", "internal/bytealg.MakeNoZero", "maps.clone"], unfollowed := true, recurses := true, named := ["unicode/utf8.first", "unicode/utf8.acceptRanges", "internal/bytealg.MaxLen"], apart := false, laid := [("unicode/utf8.acceptRanges", laid_unicode_utf8_acceptRanges), ("unicode/utf8.first", laid_unicode_utf8_first)], narrowed := true }
def PathTellsUptoSaid : Prop := pathTellsUptoRow.holds Tryd.pinned (OpenSpec.upto pathTellsSpec)

/-- 'arbaclaw07.PathTrees', WHERE WHAT IT READS IS OF BULK AT MOST 1048576: true; the input reads as it did. -/
def pathTreesUptoRow : OpenClaim := { program := "ytnhbdlllkmnpfaadoor", sum := "ae7d7a2a7da4a7f4eaf02ba6f11602c35607d2c50de44da91e64e5d0b474a06c", func := "arbac/arbaclaw07.PathTrees", spec := "pathTrees", inPlace := ["internal/bytealg.CountString", "internal/bytealg.IndexByteString", "internal/bytealg.IndexString", "internal/abi.NoEscape", "internal/bytealg.MakeNoZero", "maps.clone"], unfollowed := true, recurses := true, named := ["unicode/utf8.first", "unicode/utf8.acceptRanges", "internal/bytealg.MaxLen"], apart := false, laid := [("unicode/utf8.acceptRanges", laid_unicode_utf8_acceptRanges), ("unicode/utf8.first", laid_unicode_utf8_first)], narrowed := true }
def PathTreesUptoSaid : Prop := pathTreesUptoRow.holds Tryd.pinned (OpenSpec.upto pathTreesSpec)

/-- 'arbaclaw07.PathParents', WHERE WHAT IT READS IS OF BULK AT MOST 1048576: true; the input reads as it did. -/
def pathParentsUptoRow : OpenClaim := { program := "ytnhbdlllkmnpfaadoor", sum := "ae7d7a2a7da4a7f4eaf02ba6f11602c35607d2c50de44da91e64e5d0b474a06c", func := "arbac/arbaclaw07.PathParents", spec := "pathParents", inPlace := ["internal/bytealg.CountString", "internal/bytealg.IndexByteString", "internal/bytealg.IndexString", "internal/abi.NoEscape", "internal/bytealg.MakeNoZero", "maps.clone"], unfollowed := true, recurses := true, named := ["unicode/utf8.first", "unicode/utf8.acceptRanges", "internal/bytealg.MaxLen"], apart := false, laid := [("unicode/utf8.acceptRanges", laid_unicode_utf8_acceptRanges), ("unicode/utf8.first", laid_unicode_utf8_first)], narrowed := true }
def PathParentsUptoSaid : Prop := pathParentsUptoRow.holds Tryd.pinned (OpenSpec.upto pathParentsSpec)

/-- 'arbaclaw07.PathKeeps', WHERE WHAT IT READS IS OF BULK AT MOST 1048576: true; the input reads as it did. -/
def pathKeepsUptoRow : OpenClaim := { program := "ytnhbdlllkmnpfaadoor", sum := "ae7d7a2a7da4a7f4eaf02ba6f11602c35607d2c50de44da91e64e5d0b474a06c", func := "arbac/arbaclaw07.PathKeeps", spec := "pathKeeps", inPlace := ["internal/bytealg.CountString", "internal/bytealg.IndexByteString", "internal/bytealg.IndexString", "internal/abi.NoEscape", "internal/bytealg.MakeNoZero", "maps.clone"], unfollowed := true, recurses := true, named := ["unicode/utf8.first", "unicode/utf8.acceptRanges", "internal/bytealg.MaxLen"], apart := false, laid := [("unicode/utf8.acceptRanges", laid_unicode_utf8_acceptRanges), ("unicode/utf8.first", laid_unicode_utf8_first)], narrowed := true }
def PathKeepsUptoSaid : Prop := pathKeepsUptoRow.holds Tryd.pinned (OpenSpec.upto pathKeepsSpec)

/-- 'arbaclaw07.PathNil', WHERE WHAT IT READS IS OF BULK AT MOST 1048576: true; the input reads as it did. -/
def pathNilUptoRow : OpenClaim := { program := "ytnhbdlllkmnpfaadoor", sum := "ae7d7a2a7da4a7f4eaf02ba6f11602c35607d2c50de44da91e64e5d0b474a06c", func := "arbac/arbaclaw07.PathNil", spec := "pathNil", inPlace := ["internal/bytealg.CountString", "internal/bytealg.IndexByteString", "internal/bytealg.IndexString", "internal/abi.NoEscape", "internal/bytealg.MakeNoZero", "maps.clone"], unfollowed := true, recurses := true, named := ["unicode/utf8.first", "unicode/utf8.acceptRanges", "internal/bytealg.MaxLen"], apart := false, laid := [("unicode/utf8.acceptRanges", laid_unicode_utf8_acceptRanges), ("unicode/utf8.first", laid_unicode_utf8_first)], narrowed := true }
def PathNilUptoSaid : Prop := pathNilUptoRow.holds Tryd.pinned (OpenSpec.upto pathNilSpec)

/-- 'arbaclaw07.PathJoins', WHERE WHAT IT READS IS OF BULK AT MOST 1048576: true; the input reads as it did. -/
def pathJoinsUptoRow : OpenClaim := { program := "ytnhbdlllkmnpfaadoor", sum := "ae7d7a2a7da4a7f4eaf02ba6f11602c35607d2c50de44da91e64e5d0b474a06c", func := "arbac/arbaclaw07.PathJoins", spec := "pathJoins", inPlace := ["internal/bytealg.CountString", "internal/bytealg.IndexByteString", "internal/bytealg.IndexString", "internal/abi.NoEscape", "internal/bytealg.MakeNoZero", "maps.clone"], unfollowed := true, recurses := true, named := ["unicode/utf8.first", "unicode/utf8.acceptRanges", "internal/bytealg.MaxLen"], apart := false, laid := [("unicode/utf8.acceptRanges", laid_unicode_utf8_acceptRanges), ("unicode/utf8.first", laid_unicode_utf8_first)], narrowed := true }
def PathJoinsUptoSaid : Prop := pathJoinsUptoRow.holds Tryd.pinned (OpenSpec.upto pathJoinsSpec)

/-- 'arbaclaw07.PathNests', WHERE WHAT IT READS IS OF BULK AT MOST 1048576: true; the input reads as it did. -/
def pathNestsUptoRow : OpenClaim := { program := "ytnhbdlllkmnpfaadoor", sum := "ae7d7a2a7da4a7f4eaf02ba6f11602c35607d2c50de44da91e64e5d0b474a06c", func := "arbac/arbaclaw07.PathNests", spec := "pathNests", inPlace := ["internal/bytealg.CountString", "internal/bytealg.IndexByteString", "internal/bytealg.IndexString", "internal/abi.NoEscape", "internal/bytealg.MakeNoZero", "maps.clone"], unfollowed := true, recurses := true, named := ["unicode/utf8.first", "unicode/utf8.acceptRanges", "internal/bytealg.MaxLen"], apart := false, laid := [("unicode/utf8.acceptRanges", laid_unicode_utf8_acceptRanges), ("unicode/utf8.first", laid_unicode_utf8_first)], narrowed := true }
def PathNestsUptoSaid : Prop := pathNestsUptoRow.holds Tryd.pinned (OpenSpec.upto pathNestsSpec)

end Rows
end Go.Proofs.YtnhbdlllkmnpfaaDoor
