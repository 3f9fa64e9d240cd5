/-
  NARROWER THAN 'FOR EVERY INPUT', by the rows' own cells (each row's printed sentence says how): GrantRedundant: laid · GrantPlays: laid · GrantCovers: laid · GrantEquals: laid · GrantOrder: laid · GrantAll: laid · GrantNeeds: laid · GrantNil: laid · GrantBytes: laid.
  DERIVED. THE GIVEN ROWS OF THIS SEAT. 9 by the template 'for every input the law returns true; each argument reads behind the call as it read before'; 0 by the template 'total and deterministic' (their statements: YtndlnfdaeipifaaGreatDoorTotals.lean).
  GIVEN WITH THE SEED: the statements are not yours to turn. If you find one false, say at which input.
  Laid BY PROGRAM, IN A SANDBOX (cutbox-rows.mjs): the forced cells as the released guide's own fill.sh prints them over the translation e8ad90aeec9a27ea… (all of the seat's roots in one cut). By AI agents, Wed Nov 11 2026. No macro, syntax, notation, axiom, sorry.
-/
import Derived.Test.YtndlnfdaeipifaaGreatDoorChecked
import GoSem.PinnedTables
import GoSem.Claim
import GoSem.ClaimJoined
import GoSem.ClaimMapViews
import Derived.JoinedTies
import Derived.KernelRfl
namespace Go.Proofs.YtndlnfdaeipifaaGreatDoor
/- THE CELL 'sum', in the pinned program and in every row, IS THE sha256 OF THE DUMP (.gsa) THAT YtndlnfdaeipifaaGreatDoorProg.lean LOADS. Nothing in Lean hashes anything: it is a label: what it is worth is what the hold of that sum in a sandbox is worth. -/
noncomputable def Tryz.pinned : Pinned := { name := "ytndlnfdaeipifaagreatdoor", sum := "e8ad90aeec9a27ea53187a2bc31db7b222c5f0ce3d2f3470d27f19ed30a814d6", checked := Tryz.checked }
namespace Rows
def none {H : Type} : Left H := { results := [], args := [] }

/- WHAT THE LISTED PACKAGE-LEVEL VARIABLES READ AS WHEN THE CALL BEGINS. Each datum BY PROGRAM (the guide's laid-datum.mjs) off the statement by which the dump's own 'gosem.cut.vars' lays the variable. In a bare row this is a premise. The card (YtndlnfdaeipifaaGreatDoorCards.lean) ties it to the program's text. -/
def laid_math_bits_deBruijn64tab {H : Type} : DataW H := .agg [.lit (.int .u8 0), .lit (.int .u8 1), .lit (.int .u8 56), .lit (.int .u8 2), .lit (.int .u8 57), .lit (.int .u8 49), .lit (.int .u8 28), .lit (.int .u8 3), .lit (.int .u8 61), .lit (.int .u8 58), .lit (.int .u8 42), .lit (.int .u8 50), .lit (.int .u8 38), .lit (.int .u8 29), .lit (.int .u8 17), .lit (.int .u8 4), .lit (.int .u8 62), .lit (.int .u8 47), .lit (.int .u8 59), .lit (.int .u8 36), .lit (.int .u8 45), .lit (.int .u8 43), .lit (.int .u8 51), .lit (.int .u8 22), .lit (.int .u8 53), .lit (.int .u8 39), .lit (.int .u8 33), .lit (.int .u8 30), .lit (.int .u8 24), .lit (.int .u8 18), .lit (.int .u8 12), .lit (.int .u8 5), .lit (.int .u8 63), .lit (.int .u8 55), .lit (.int .u8 48), .lit (.int .u8 27), .lit (.int .u8 60), .lit (.int .u8 41), .lit (.int .u8 37), .lit (.int .u8 16), .lit (.int .u8 46), .lit (.int .u8 35), .lit (.int .u8 44), .lit (.int .u8 21), .lit (.int .u8 52), .lit (.int .u8 32), .lit (.int .u8 23), .lit (.int .u8 11), .lit (.int .u8 54), .lit (.int .u8 26), .lit (.int .u8 40), .lit (.int .u8 15), .lit (.int .u8 34), .lit (.int .u8 20), .lit (.int .u8 31), .lit (.int .u8 10), .lit (.int .u8 25), .lit (.int .u8 14), .lit (.int .u8 19), .lit (.int .u8 9), .lit (.int .u8 13), .lit (.int .u8 8), .lit (.int .u8 7), .lit (.int .u8 6)]
def laid_unicode_utf8_acceptRanges {H : Type} : DataW H := .agg [.agg [.lit (.int .u8 128), .lit (.int .u8 191)], .agg [.lit (.int .u8 160), .lit (.int .u8 191)], .agg [.lit (.int .u8 128), .lit (.int .u8 159)], .agg [.lit (.int .u8 144), .lit (.int .u8 191)], .agg [.lit (.int .u8 128), .lit (.int .u8 143)], .agg [.lit (.int .u8 0), .lit (.int .u8 0)], .agg [.lit (.int .u8 0), .lit (.int .u8 0)], .agg [.lit (.int .u8 0), .lit (.int .u8 0)], .agg [.lit (.int .u8 0), .lit (.int .u8 0)], .agg [.lit (.int .u8 0), .lit (.int .u8 0)], .agg [.lit (.int .u8 0), .lit (.int .u8 0)], .agg [.lit (.int .u8 0), .lit (.int .u8 0)], .agg [.lit (.int .u8 0), .lit (.int .u8 0)], .agg [.lit (.int .u8 0), .lit (.int .u8 0)], .agg [.lit (.int .u8 0), .lit (.int .u8 0)], .agg [.lit (.int .u8 0), .lit (.int .u8 0)]]
/-- One of Go's own tables, pinned by name: the form's constant. -/
def laid_unicode_utf8_first : DataW Unit := Go.Pinned.utf8First

/-- 'arbaclaw13.GrantRedundant': WHATEVER THE INPUT: true; the input reads as it did. -/
def grantRedundantSpec : ChangeSpec := { name := "grantRedundant", fn := fun _ => fun
  | [d1, d2] => { results := [.lit (.bool true)], args := [d1, d2] }
  | _ => none }
def grantRedundantRow : OpenClaim := { program := "ytndlnfdaeipifaagreatdoor", sum := "e8ad90aeec9a27ea53187a2bc31db7b222c5f0ce3d2f3470d27f19ed30a814d6", func := "arbac/arbaclaw13.GrantRedundant", spec := "grantRedundant", inPlace := ["internal/bytealg.CountString", "internal/bytealg.IndexByteString", "internal/bytealg.IndexString", "slices.overlaps[arbac/grant.Entry]"], unfollowed := true, recurses := true, named := ["unicode/utf8.first", "unicode/utf8.acceptRanges", "internal/bytealg.MaxLen", "math/bits.deBruijn64tab"], apart := false, laid := [("math/bits.deBruijn64tab", laid_math_bits_deBruijn64tab), ("unicode/utf8.acceptRanges", laid_unicode_utf8_acceptRanges), ("unicode/utf8.first", laid_unicode_utf8_first)] }
def GrantRedundantSaid : Prop := grantRedundantRow.holds Tryz.pinned (OpenSpec.ofChange grantRedundantSpec)

/-- ITS FALSE NEIGHBOUR: 'it returns false'. Refute it at one input. -/
def grantRedundantWrong : ChangeSpec := { name := "grantRedundant", fn := fun _ => fun
  | [d1, d2] => { results := [.lit (.bool false)], args := [d1, d2] }
  | _ => none }
def GrantRedundantWrongFalsely : Prop := grantRedundantRow.holds Tryz.pinned (OpenSpec.ofChange grantRedundantWrong)

/-- 'arbaclaw13.GrantPlays': WHATEVER THE INPUT: true; the input reads as it did. -/
def grantPlaysSpec : ChangeSpec := { name := "grantPlays", fn := fun _ => fun
  | [d1, d2] => { results := [.lit (.bool true)], args := [d1, d2] }
  | _ => none }
def grantPlaysRow : OpenClaim := { program := "ytndlnfdaeipifaagreatdoor", sum := "e8ad90aeec9a27ea53187a2bc31db7b222c5f0ce3d2f3470d27f19ed30a814d6", func := "arbac/arbaclaw13.GrantPlays", spec := "grantPlays", inPlace := ["internal/bytealg.CountString", "internal/bytealg.IndexByteString", "internal/bytealg.IndexString", "slices.overlaps[arbac/grant.Entry]"], unfollowed := true, recurses := true, named := ["unicode/utf8.first", "unicode/utf8.acceptRanges", "internal/bytealg.MaxLen", "math/bits.deBruijn64tab"], apart := false, laid := [("math/bits.deBruijn64tab", laid_math_bits_deBruijn64tab), ("unicode/utf8.acceptRanges", laid_unicode_utf8_acceptRanges), ("unicode/utf8.first", laid_unicode_utf8_first)] }
def GrantPlaysSaid : Prop := grantPlaysRow.holds Tryz.pinned (OpenSpec.ofChange grantPlaysSpec)

/-- ITS FALSE NEIGHBOUR: 'it returns false'. Refute it at one input. -/
def grantPlaysWrong : ChangeSpec := { name := "grantPlays", fn := fun _ => fun
  | [d1, d2] => { results := [.lit (.bool false)], args := [d1, d2] }
  | _ => none }
def GrantPlaysWrongFalsely : Prop := grantPlaysRow.holds Tryz.pinned (OpenSpec.ofChange grantPlaysWrong)

/-- 'arbaclaw13.GrantCovers': WHATEVER THE INPUT: true; the input reads as it did. -/
def grantCoversSpec : ChangeSpec := { name := "grantCovers", fn := fun _ => fun
  | [d1, d2, d3] => { results := [.lit (.bool true)], args := [d1, d2, d3] }
  | _ => none }
def grantCoversRow : OpenClaim := { program := "ytndlnfdaeipifaagreatdoor", sum := "e8ad90aeec9a27ea53187a2bc31db7b222c5f0ce3d2f3470d27f19ed30a814d6", func := "arbac/arbaclaw13.GrantCovers", spec := "grantCovers", inPlace := ["internal/bytealg.CountString", "internal/bytealg.IndexByteString", "internal/bytealg.IndexString", "slices.overlaps[arbac/grant.Entry]"], unfollowed := true, recurses := true, named := ["unicode/utf8.first", "unicode/utf8.acceptRanges", "internal/bytealg.MaxLen", "math/bits.deBruijn64tab"], apart := false, laid := [("math/bits.deBruijn64tab", laid_math_bits_deBruijn64tab), ("unicode/utf8.acceptRanges", laid_unicode_utf8_acceptRanges), ("unicode/utf8.first", laid_unicode_utf8_first)] }
def GrantCoversSaid : Prop := grantCoversRow.holds Tryz.pinned (OpenSpec.ofChange grantCoversSpec)

/-- ITS FALSE NEIGHBOUR: 'it returns false'. Refute it at one input. -/
def grantCoversWrong : ChangeSpec := { name := "grantCovers", fn := fun _ => fun
  | [d1, d2, d3] => { results := [.lit (.bool false)], args := [d1, d2, d3] }
  | _ => none }
def GrantCoversWrongFalsely : Prop := grantCoversRow.holds Tryz.pinned (OpenSpec.ofChange grantCoversWrong)

/-- 'arbaclaw13.GrantEquals': WHATEVER THE INPUT: true; the input reads as it did. -/
def grantEqualsSpec : ChangeSpec := { name := "grantEquals", fn := fun _ => fun
  | [d1, d2, d3] => { results := [.lit (.bool true)], args := [d1, d2, d3] }
  | _ => none }
def grantEqualsRow : OpenClaim := { program := "ytndlnfdaeipifaagreatdoor", sum := "e8ad90aeec9a27ea53187a2bc31db7b222c5f0ce3d2f3470d27f19ed30a814d6", func := "arbac/arbaclaw13.GrantEquals", spec := "grantEquals", inPlace := ["internal/bytealg.CountString", "internal/bytealg.IndexByteString", "internal/bytealg.IndexString", "slices.overlaps[arbac/grant.Entry]"], unfollowed := true, recurses := true, named := ["unicode/utf8.first", "unicode/utf8.acceptRanges", "internal/bytealg.MaxLen", "math/bits.deBruijn64tab"], apart := false, laid := [("math/bits.deBruijn64tab", laid_math_bits_deBruijn64tab), ("unicode/utf8.acceptRanges", laid_unicode_utf8_acceptRanges), ("unicode/utf8.first", laid_unicode_utf8_first)] }
def GrantEqualsSaid : Prop := grantEqualsRow.holds Tryz.pinned (OpenSpec.ofChange grantEqualsSpec)

/-- ITS FALSE NEIGHBOUR: 'it returns false'. Refute it at one input. -/
def grantEqualsWrong : ChangeSpec := { name := "grantEquals", fn := fun _ => fun
  | [d1, d2, d3] => { results := [.lit (.bool false)], args := [d1, d2, d3] }
  | _ => none }
def GrantEqualsWrongFalsely : Prop := grantEqualsRow.holds Tryz.pinned (OpenSpec.ofChange grantEqualsWrong)

/-- 'arbaclaw13.GrantOrder': WHATEVER THE INPUT: true; the input reads as it did. -/
def grantOrderSpec : ChangeSpec := { name := "grantOrder", fn := fun _ => fun
  | [d1, d2] => { results := [.lit (.bool true)], args := [d1, d2] }
  | _ => none }
def grantOrderRow : OpenClaim := { program := "ytndlnfdaeipifaagreatdoor", sum := "e8ad90aeec9a27ea53187a2bc31db7b222c5f0ce3d2f3470d27f19ed30a814d6", func := "arbac/arbaclaw13.GrantOrder", spec := "grantOrder", inPlace := ["internal/bytealg.CountString", "internal/bytealg.IndexByteString", "internal/bytealg.IndexString", "slices.overlaps[arbac/grant.Entry]"], unfollowed := true, recurses := true, named := ["unicode/utf8.first", "unicode/utf8.acceptRanges", "internal/bytealg.MaxLen", "math/bits.deBruijn64tab"], apart := false, laid := [("math/bits.deBruijn64tab", laid_math_bits_deBruijn64tab), ("unicode/utf8.acceptRanges", laid_unicode_utf8_acceptRanges), ("unicode/utf8.first", laid_unicode_utf8_first)] }
def GrantOrderSaid : Prop := grantOrderRow.holds Tryz.pinned (OpenSpec.ofChange grantOrderSpec)

/-- ITS FALSE NEIGHBOUR: 'it returns false'. Refute it at one input. -/
def grantOrderWrong : ChangeSpec := { name := "grantOrder", fn := fun _ => fun
  | [d1, d2] => { results := [.lit (.bool false)], args := [d1, d2] }
  | _ => none }
def GrantOrderWrongFalsely : Prop := grantOrderRow.holds Tryz.pinned (OpenSpec.ofChange grantOrderWrong)

/-- 'arbaclaw13.GrantAll': WHATEVER THE INPUT: true; the input reads as it did. -/
def grantAllSpec : ChangeSpec := { name := "grantAll", fn := fun _ => fun
  | [d1, d2, d3] => { results := [.lit (.bool true)], args := [d1, d2, d3] }
  | _ => none }
def grantAllRow : OpenClaim := { program := "ytndlnfdaeipifaagreatdoor", sum := "e8ad90aeec9a27ea53187a2bc31db7b222c5f0ce3d2f3470d27f19ed30a814d6", func := "arbac/arbaclaw13.GrantAll", spec := "grantAll", inPlace := ["internal/bytealg.CountString", "internal/bytealg.IndexByteString", "internal/bytealg.IndexString", "slices.overlaps[arbac/grant.Entry]"], unfollowed := true, recurses := true, named := ["unicode/utf8.first", "unicode/utf8.acceptRanges", "internal/bytealg.MaxLen", "math/bits.deBruijn64tab"], apart := false, laid := [("math/bits.deBruijn64tab", laid_math_bits_deBruijn64tab), ("unicode/utf8.acceptRanges", laid_unicode_utf8_acceptRanges), ("unicode/utf8.first", laid_unicode_utf8_first)] }
def GrantAllSaid : Prop := grantAllRow.holds Tryz.pinned (OpenSpec.ofChange grantAllSpec)

/-- ITS FALSE NEIGHBOUR: 'it returns false'. Refute it at one input. -/
def grantAllWrong : ChangeSpec := { name := "grantAll", fn := fun _ => fun
  | [d1, d2, d3] => { results := [.lit (.bool false)], args := [d1, d2, d3] }
  | _ => none }
def GrantAllWrongFalsely : Prop := grantAllRow.holds Tryz.pinned (OpenSpec.ofChange grantAllWrong)

/-- 'arbaclaw13.GrantNeeds': WHATEVER THE INPUT: true; the input reads as it did. -/
def grantNeedsSpec : ChangeSpec := { name := "grantNeeds", fn := fun _ => fun
  | [d1, d2, d3] => { results := [.lit (.bool true)], args := [d1, d2, d3] }
  | _ => none }
def grantNeedsRow : OpenClaim := { program := "ytndlnfdaeipifaagreatdoor", sum := "e8ad90aeec9a27ea53187a2bc31db7b222c5f0ce3d2f3470d27f19ed30a814d6", func := "arbac/arbaclaw13.GrantNeeds", spec := "grantNeeds", inPlace := ["internal/bytealg.CountString", "internal/bytealg.IndexByteString", "internal/bytealg.IndexString", "slices.overlaps[arbac/grant.Entry]"], unfollowed := true, recurses := true, named := ["unicode/utf8.first", "unicode/utf8.acceptRanges", "internal/bytealg.MaxLen", "math/bits.deBruijn64tab"], apart := false, laid := [("math/bits.deBruijn64tab", laid_math_bits_deBruijn64tab), ("unicode/utf8.acceptRanges", laid_unicode_utf8_acceptRanges), ("unicode/utf8.first", laid_unicode_utf8_first)] }
def GrantNeedsSaid : Prop := grantNeedsRow.holds Tryz.pinned (OpenSpec.ofChange grantNeedsSpec)

/-- ITS FALSE NEIGHBOUR: 'it returns false'. Refute it at one input. -/
def grantNeedsWrong : ChangeSpec := { name := "grantNeeds", fn := fun _ => fun
  | [d1, d2, d3] => { results := [.lit (.bool false)], args := [d1, d2, d3] }
  | _ => none }
def GrantNeedsWrongFalsely : Prop := grantNeedsRow.holds Tryz.pinned (OpenSpec.ofChange grantNeedsWrong)

/-- 'arbaclaw13.GrantNil': WHATEVER THE INPUT: true; the input reads as it did. -/
def grantNilSpec : ChangeSpec := { name := "grantNil", fn := fun _ => fun
  | [d1, d2] => { results := [.lit (.bool true)], args := [d1, d2] }
  | _ => none }
def grantNilRow : OpenClaim := { program := "ytndlnfdaeipifaagreatdoor", sum := "e8ad90aeec9a27ea53187a2bc31db7b222c5f0ce3d2f3470d27f19ed30a814d6", func := "arbac/arbaclaw13.GrantNil", spec := "grantNil", inPlace := ["internal/bytealg.CountString", "internal/bytealg.IndexByteString", "internal/bytealg.IndexString", "slices.overlaps[arbac/grant.Entry]"], unfollowed := true, recurses := true, named := ["unicode/utf8.first", "unicode/utf8.acceptRanges", "internal/bytealg.MaxLen", "math/bits.deBruijn64tab"], apart := false, laid := [("math/bits.deBruijn64tab", laid_math_bits_deBruijn64tab), ("unicode/utf8.acceptRanges", laid_unicode_utf8_acceptRanges), ("unicode/utf8.first", laid_unicode_utf8_first)] }
def GrantNilSaid : Prop := grantNilRow.holds Tryz.pinned (OpenSpec.ofChange grantNilSpec)

/-- ITS FALSE NEIGHBOUR: 'it returns false'. Refute it at one input. -/
def grantNilWrong : ChangeSpec := { name := "grantNil", fn := fun _ => fun
  | [d1, d2] => { results := [.lit (.bool false)], args := [d1, d2] }
  | _ => none }
def GrantNilWrongFalsely : Prop := grantNilRow.holds Tryz.pinned (OpenSpec.ofChange grantNilWrong)

/-- 'arbaclaw13.GrantBytes': WHATEVER THE INPUT: true; the input reads as it did. -/
def grantBytesSpec : ChangeSpec := { name := "grantBytes", fn := fun _ => fun
  | [d1, d2] => { results := [.lit (.bool true)], args := [d1, d2] }
  | _ => none }
def grantBytesRow : OpenClaim := { program := "ytndlnfdaeipifaagreatdoor", sum := "e8ad90aeec9a27ea53187a2bc31db7b222c5f0ce3d2f3470d27f19ed30a814d6", func := "arbac/arbaclaw13.GrantBytes", spec := "grantBytes", inPlace := ["internal/bytealg.CountString", "internal/bytealg.IndexByteString", "internal/bytealg.IndexString", "slices.overlaps[arbac/grant.Entry]"], unfollowed := true, recurses := true, named := ["unicode/utf8.first", "unicode/utf8.acceptRanges", "internal/bytealg.MaxLen", "math/bits.deBruijn64tab"], apart := false, laid := [("math/bits.deBruijn64tab", laid_math_bits_deBruijn64tab), ("unicode/utf8.acceptRanges", laid_unicode_utf8_acceptRanges), ("unicode/utf8.first", laid_unicode_utf8_first)] }
def GrantBytesSaid : Prop := grantBytesRow.holds Tryz.pinned (OpenSpec.ofChange grantBytesSpec)

/-- ITS FALSE NEIGHBOUR: 'it returns false'. Refute it at one input. -/
def grantBytesWrong : ChangeSpec := { name := "grantBytes", fn := fun _ => fun
  | [d1, d2] => { results := [.lit (.bool false)], args := [d1, d2] }
  | _ => none }
def GrantBytesWrongFalsely : Prop := grantBytesRow.holds Tryz.pinned (OpenSpec.ofChange grantBytesWrong)

/- THE SECOND FORM. 'bulk': how many values and letters a reading holds, each counted each time it is reached (what is shared counts as often as it is met; a slice's spare places count too). A statement '..UptoSaid' is the law's where the arguments, and the package variables that the reading takes, are together of bulk at most 1048576: NARROWER than '..Said'. Prove '..Said' where nothing that the law and all that it calls make is longer than what came in: it says more and counts as full. Else prove '..UptoSaid'. A law counts once. -/
mutual
def uptoBulk {H : Type} : DataW H → Nat
  | .lit (.string bytes) => bytes.length + 1
  | .lit _ => 1
  | .nil => 1
  | .ptr d => uptoBulk d + 1
  | .slice elems spare => uptoBulkAll elems + uptoBulkAll spare + 1
  | .agg parts => uptoBulkAll parts + 1
  | .iface _ d => uptoBulk d + 1
  | .map entries => uptoBulkEntries entries + 1
  | .held _ => 1
def uptoBulkAll {H : Type} : List (DataW H) → Nat
  | [] => 0
  | d :: r => uptoBulk d + uptoBulkAll r
def uptoBulkEntries {H : Type} : List (Lit × DataW H) → Nat
  | [] => 0
  | x :: r => uptoBulkEntry x + uptoBulkEntries r
def uptoBulkEntry {H : Type} : Lit × DataW H → Nat
  | (.string bytes, d) => bytes.length + uptoBulk d + 1
  | (_, d) => uptoBulk d + 1
 end
def uptoSmall : (H : Type) → List (DataW H) → Bool := fun _ ds => decide (uptoBulkAll ds ≤ 1048576)
def OpenSpec.upto (s : _root_.Go.ChangeSpec) : _root_.Go.OpenSpec := { _root_.Go.OpenSpec.ofChange s with cond := some uptoSmall }

/-- 'arbaclaw13.GrantRedundant', WHERE WHAT IT READS IS OF BULK AT MOST 1048576: true; the input reads as it did. -/
def grantRedundantUptoRow : OpenClaim := { program := "ytndlnfdaeipifaagreatdoor", sum := "e8ad90aeec9a27ea53187a2bc31db7b222c5f0ce3d2f3470d27f19ed30a814d6", func := "arbac/arbaclaw13.GrantRedundant", spec := "grantRedundant", inPlace := ["internal/bytealg.CountString", "internal/bytealg.IndexByteString", "internal/bytealg.IndexString", "slices.overlaps[arbac/grant.Entry]"], unfollowed := true, recurses := true, named := ["unicode/utf8.first", "unicode/utf8.acceptRanges", "internal/bytealg.MaxLen", "math/bits.deBruijn64tab"], apart := false, laid := [("math/bits.deBruijn64tab", laid_math_bits_deBruijn64tab), ("unicode/utf8.acceptRanges", laid_unicode_utf8_acceptRanges), ("unicode/utf8.first", laid_unicode_utf8_first)], narrowed := true }
def GrantRedundantUptoSaid : Prop := grantRedundantUptoRow.holds Tryz.pinned (OpenSpec.upto grantRedundantSpec)

/-- 'arbaclaw13.GrantPlays', WHERE WHAT IT READS IS OF BULK AT MOST 1048576: true; the input reads as it did. -/
def grantPlaysUptoRow : OpenClaim := { program := "ytndlnfdaeipifaagreatdoor", sum := "e8ad90aeec9a27ea53187a2bc31db7b222c5f0ce3d2f3470d27f19ed30a814d6", func := "arbac/arbaclaw13.GrantPlays", spec := "grantPlays", inPlace := ["internal/bytealg.CountString", "internal/bytealg.IndexByteString", "internal/bytealg.IndexString", "slices.overlaps[arbac/grant.Entry]"], unfollowed := true, recurses := true, named := ["unicode/utf8.first", "unicode/utf8.acceptRanges", "internal/bytealg.MaxLen", "math/bits.deBruijn64tab"], apart := false, laid := [("math/bits.deBruijn64tab", laid_math_bits_deBruijn64tab), ("unicode/utf8.acceptRanges", laid_unicode_utf8_acceptRanges), ("unicode/utf8.first", laid_unicode_utf8_first)], narrowed := true }
def GrantPlaysUptoSaid : Prop := grantPlaysUptoRow.holds Tryz.pinned (OpenSpec.upto grantPlaysSpec)

/-- 'arbaclaw13.GrantCovers', WHERE WHAT IT READS IS OF BULK AT MOST 1048576: true; the input reads as it did. -/
def grantCoversUptoRow : OpenClaim := { program := "ytndlnfdaeipifaagreatdoor", sum := "e8ad90aeec9a27ea53187a2bc31db7b222c5f0ce3d2f3470d27f19ed30a814d6", func := "arbac/arbaclaw13.GrantCovers", spec := "grantCovers", inPlace := ["internal/bytealg.CountString", "internal/bytealg.IndexByteString", "internal/bytealg.IndexString", "slices.overlaps[arbac/grant.Entry]"], unfollowed := true, recurses := true, named := ["unicode/utf8.first", "unicode/utf8.acceptRanges", "internal/bytealg.MaxLen", "math/bits.deBruijn64tab"], apart := false, laid := [("math/bits.deBruijn64tab", laid_math_bits_deBruijn64tab), ("unicode/utf8.acceptRanges", laid_unicode_utf8_acceptRanges), ("unicode/utf8.first", laid_unicode_utf8_first)], narrowed := true }
def GrantCoversUptoSaid : Prop := grantCoversUptoRow.holds Tryz.pinned (OpenSpec.upto grantCoversSpec)

/-- 'arbaclaw13.GrantEquals', WHERE WHAT IT READS IS OF BULK AT MOST 1048576: true; the input reads as it did. -/
def grantEqualsUptoRow : OpenClaim := { program := "ytndlnfdaeipifaagreatdoor", sum := "e8ad90aeec9a27ea53187a2bc31db7b222c5f0ce3d2f3470d27f19ed30a814d6", func := "arbac/arbaclaw13.GrantEquals", spec := "grantEquals", inPlace := ["internal/bytealg.CountString", "internal/bytealg.IndexByteString", "internal/bytealg.IndexString", "slices.overlaps[arbac/grant.Entry]"], unfollowed := true, recurses := true, named := ["unicode/utf8.first", "unicode/utf8.acceptRanges", "internal/bytealg.MaxLen", "math/bits.deBruijn64tab"], apart := false, laid := [("math/bits.deBruijn64tab", laid_math_bits_deBruijn64tab), ("unicode/utf8.acceptRanges", laid_unicode_utf8_acceptRanges), ("unicode/utf8.first", laid_unicode_utf8_first)], narrowed := true }
def GrantEqualsUptoSaid : Prop := grantEqualsUptoRow.holds Tryz.pinned (OpenSpec.upto grantEqualsSpec)

/-- 'arbaclaw13.GrantOrder', WHERE WHAT IT READS IS OF BULK AT MOST 1048576: true; the input reads as it did. -/
def grantOrderUptoRow : OpenClaim := { program := "ytndlnfdaeipifaagreatdoor", sum := "e8ad90aeec9a27ea53187a2bc31db7b222c5f0ce3d2f3470d27f19ed30a814d6", func := "arbac/arbaclaw13.GrantOrder", spec := "grantOrder", inPlace := ["internal/bytealg.CountString", "internal/bytealg.IndexByteString", "internal/bytealg.IndexString", "slices.overlaps[arbac/grant.Entry]"], unfollowed := true, recurses := true, named := ["unicode/utf8.first", "unicode/utf8.acceptRanges", "internal/bytealg.MaxLen", "math/bits.deBruijn64tab"], apart := false, laid := [("math/bits.deBruijn64tab", laid_math_bits_deBruijn64tab), ("unicode/utf8.acceptRanges", laid_unicode_utf8_acceptRanges), ("unicode/utf8.first", laid_unicode_utf8_first)], narrowed := true }
def GrantOrderUptoSaid : Prop := grantOrderUptoRow.holds Tryz.pinned (OpenSpec.upto grantOrderSpec)

/-- 'arbaclaw13.GrantAll', WHERE WHAT IT READS IS OF BULK AT MOST 1048576: true; the input reads as it did. -/
def grantAllUptoRow : OpenClaim := { program := "ytndlnfdaeipifaagreatdoor", sum := "e8ad90aeec9a27ea53187a2bc31db7b222c5f0ce3d2f3470d27f19ed30a814d6", func := "arbac/arbaclaw13.GrantAll", spec := "grantAll", inPlace := ["internal/bytealg.CountString", "internal/bytealg.IndexByteString", "internal/bytealg.IndexString", "slices.overlaps[arbac/grant.Entry]"], unfollowed := true, recurses := true, named := ["unicode/utf8.first", "unicode/utf8.acceptRanges", "internal/bytealg.MaxLen", "math/bits.deBruijn64tab"], apart := false, laid := [("math/bits.deBruijn64tab", laid_math_bits_deBruijn64tab), ("unicode/utf8.acceptRanges", laid_unicode_utf8_acceptRanges), ("unicode/utf8.first", laid_unicode_utf8_first)], narrowed := true }
def GrantAllUptoSaid : Prop := grantAllUptoRow.holds Tryz.pinned (OpenSpec.upto grantAllSpec)

/-- 'arbaclaw13.GrantNeeds', WHERE WHAT IT READS IS OF BULK AT MOST 1048576: true; the input reads as it did. -/
def grantNeedsUptoRow : OpenClaim := { program := "ytndlnfdaeipifaagreatdoor", sum := "e8ad90aeec9a27ea53187a2bc31db7b222c5f0ce3d2f3470d27f19ed30a814d6", func := "arbac/arbaclaw13.GrantNeeds", spec := "grantNeeds", inPlace := ["internal/bytealg.CountString", "internal/bytealg.IndexByteString", "internal/bytealg.IndexString", "slices.overlaps[arbac/grant.Entry]"], unfollowed := true, recurses := true, named := ["unicode/utf8.first", "unicode/utf8.acceptRanges", "internal/bytealg.MaxLen", "math/bits.deBruijn64tab"], apart := false, laid := [("math/bits.deBruijn64tab", laid_math_bits_deBruijn64tab), ("unicode/utf8.acceptRanges", laid_unicode_utf8_acceptRanges), ("unicode/utf8.first", laid_unicode_utf8_first)], narrowed := true }
def GrantNeedsUptoSaid : Prop := grantNeedsUptoRow.holds Tryz.pinned (OpenSpec.upto grantNeedsSpec)

/-- 'arbaclaw13.GrantNil', WHERE WHAT IT READS IS OF BULK AT MOST 1048576: true; the input reads as it did. -/
def grantNilUptoRow : OpenClaim := { program := "ytndlnfdaeipifaagreatdoor", sum := "e8ad90aeec9a27ea53187a2bc31db7b222c5f0ce3d2f3470d27f19ed30a814d6", func := "arbac/arbaclaw13.GrantNil", spec := "grantNil", inPlace := ["internal/bytealg.CountString", "internal/bytealg.IndexByteString", "internal/bytealg.IndexString", "slices.overlaps[arbac/grant.Entry]"], unfollowed := true, recurses := true, named := ["unicode/utf8.first", "unicode/utf8.acceptRanges", "internal/bytealg.MaxLen", "math/bits.deBruijn64tab"], apart := false, laid := [("math/bits.deBruijn64tab", laid_math_bits_deBruijn64tab), ("unicode/utf8.acceptRanges", laid_unicode_utf8_acceptRanges), ("unicode/utf8.first", laid_unicode_utf8_first)], narrowed := true }
def GrantNilUptoSaid : Prop := grantNilUptoRow.holds Tryz.pinned (OpenSpec.upto grantNilSpec)

/-- 'arbaclaw13.GrantBytes', WHERE WHAT IT READS IS OF BULK AT MOST 1048576: true; the input reads as it did. -/
def grantBytesUptoRow : OpenClaim := { program := "ytndlnfdaeipifaagreatdoor", sum := "e8ad90aeec9a27ea53187a2bc31db7b222c5f0ce3d2f3470d27f19ed30a814d6", func := "arbac/arbaclaw13.GrantBytes", spec := "grantBytes", inPlace := ["internal/bytealg.CountString", "internal/bytealg.IndexByteString", "internal/bytealg.IndexString", "slices.overlaps[arbac/grant.Entry]"], unfollowed := true, recurses := true, named := ["unicode/utf8.first", "unicode/utf8.acceptRanges", "internal/bytealg.MaxLen", "math/bits.deBruijn64tab"], apart := false, laid := [("math/bits.deBruijn64tab", laid_math_bits_deBruijn64tab), ("unicode/utf8.acceptRanges", laid_unicode_utf8_acceptRanges), ("unicode/utf8.first", laid_unicode_utf8_first)], narrowed := true }
def GrantBytesUptoSaid : Prop := grantBytesUptoRow.holds Tryz.pinned (OpenSpec.upto grantBytesSpec)

end Rows
end Go.Proofs.YtndlnfdaeipifaaGreatDoor
