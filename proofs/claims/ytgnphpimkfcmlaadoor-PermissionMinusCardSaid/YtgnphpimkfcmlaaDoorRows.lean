/-
  NARROWER THAN 'FOR EVERY INPUT', by the rows' own cells (each row's printed sentence says how): PermissionChecks: laid · PermissionCovers: laid · PermissionImplies: laid · PermissionOrder: laid · PermissionNormal: laid · PermissionSame: laid · PermissionCommon: laid · PermissionMinus: laid · PermissionTexts: laid · PermissionTree: laid.
  DERIVED. THE GIVEN ROWS OF THIS SEAT. 10 by the template 'for every input the law returns true; each argument reads behind the call as it read before'; 0 by the template 'total and deterministic' (their statements: YtgnphpimkfcmlaaDoorTotals.lean).
  GIVEN WITH THE SEED: the statements are not yours to turn. If you find one false, say at which input.
  Laid BY PROGRAM, IN A SANDBOX (cutbox-rows.mjs): the forced cells as the released guide's own fill.sh prints them over the translation 4f8344fa7fdf1ba4… (all of the seat's roots in one cut). By AI agents, Wed Nov 11 2026. No macro, syntax, notation, axiom, sorry.
-/
import Derived.Test.YtgnphpimkfcmlaaDoorChecked
import GoSem.PinnedTables
import GoSem.Claim
import GoSem.ClaimJoined
import GoSem.ClaimMapViews
import Derived.JoinedTies
import Derived.KernelRfl
namespace Go.Proofs.YtgnphpimkfcmlaaDoor
/- THE CELL 'sum', in the pinned program and in every row, IS THE sha256 OF THE DUMP (.gsa) THAT YtgnphpimkfcmlaaDoorProg.lean LOADS. Nothing in Lean hashes anything: it is a label: what it is worth is what the hold of that sum in a sandbox is worth. -/
noncomputable def Tryd.pinned : Pinned := { name := "ytgnphpimkfcmlaadoor", sum := "4f8344fa7fdf1ba4b56d1b8c1674897f29f717e63ecc30865fb04248ecc61a20", checked := Tryd.checked }
namespace Rows
def none {H : Type} : Left H := { results := [], args := [] }

/- WHAT THE LISTED PACKAGE-LEVEL VARIABLES READ AS WHEN THE CALL BEGINS. Each datum BY PROGRAM (the guide's laid-datum.mjs) off the statement by which the dump's own 'gosem.cut.vars' lays the variable. In a bare row this is a premise. The card (YtgnphpimkfcmlaaDoorCards.lean) ties it to the program's text. -/
def laid_unicode_utf8_acceptRanges {H : Type} : DataW H := .agg [.agg [.lit (.int .u8 128), .lit (.int .u8 191)], .agg [.lit (.int .u8 160), .lit (.int .u8 191)], .agg [.lit (.int .u8 128), .lit (.int .u8 159)], .agg [.lit (.int .u8 144), .lit (.int .u8 191)], .agg [.lit (.int .u8 128), .lit (.int .u8 143)], .agg [.lit (.int .u8 0), .lit (.int .u8 0)], .agg [.lit (.int .u8 0), .lit (.int .u8 0)], .agg [.lit (.int .u8 0), .lit (.int .u8 0)], .agg [.lit (.int .u8 0), .lit (.int .u8 0)], .agg [.lit (.int .u8 0), .lit (.int .u8 0)], .agg [.lit (.int .u8 0), .lit (.int .u8 0)], .agg [.lit (.int .u8 0), .lit (.int .u8 0)], .agg [.lit (.int .u8 0), .lit (.int .u8 0)], .agg [.lit (.int .u8 0), .lit (.int .u8 0)], .agg [.lit (.int .u8 0), .lit (.int .u8 0)], .agg [.lit (.int .u8 0), .lit (.int .u8 0)]]
/-- One of Go's own tables, pinned by name: the form's constant. -/
def laid_unicode_utf8_first : DataW Unit := Go.Pinned.utf8First

/-- 'arbaclaw11.PermissionChecks': WHATEVER THE INPUT: true; the input reads as it did. -/
def permissionChecksSpec : ChangeSpec := { name := "permissionChecks", fn := fun _ => fun
  | [d1, d2, d3] => { results := [.lit (.bool true)], args := [d1, d2, d3] }
  | _ => none }
def permissionChecksRow : OpenClaim := { program := "ytgnphpimkfcmlaadoor", sum := "4f8344fa7fdf1ba4b56d1b8c1674897f29f717e63ecc30865fb04248ecc61a20", func := "arbac/arbaclaw11.PermissionChecks", spec := "permissionChecks", inPlace := ["internal/bytealg.CountString", "internal/bytealg.IndexByteString", "internal/bytealg.IndexString"], unfollowed := true, recurses := true, named := ["unicode/utf8.first", "unicode/utf8.acceptRanges", "internal/bytealg.MaxLen"], apart := false, laid := [("unicode/utf8.acceptRanges", laid_unicode_utf8_acceptRanges), ("unicode/utf8.first", laid_unicode_utf8_first)] }
def PermissionChecksSaid : Prop := permissionChecksRow.holds Tryd.pinned (OpenSpec.ofChange permissionChecksSpec)

/-- ITS FALSE NEIGHBOUR: 'it returns false'. Refute it at one input. -/
def permissionChecksWrong : ChangeSpec := { name := "permissionChecks", fn := fun _ => fun
  | [d1, d2, d3] => { results := [.lit (.bool false)], args := [d1, d2, d3] }
  | _ => none }
def PermissionChecksWrongFalsely : Prop := permissionChecksRow.holds Tryd.pinned (OpenSpec.ofChange permissionChecksWrong)

/-- 'arbaclaw11.PermissionCovers': WHATEVER THE INPUT: true; the input reads as it did. -/
def permissionCoversSpec : ChangeSpec := { name := "permissionCovers", fn := fun _ => fun
  | [d1, d2] => { results := [.lit (.bool true)], args := [d1, d2] }
  | _ => none }
def permissionCoversRow : OpenClaim := { program := "ytgnphpimkfcmlaadoor", sum := "4f8344fa7fdf1ba4b56d1b8c1674897f29f717e63ecc30865fb04248ecc61a20", func := "arbac/arbaclaw11.PermissionCovers", spec := "permissionCovers", inPlace := ["internal/bytealg.CountString", "internal/bytealg.IndexByteString", "internal/bytealg.IndexString"], unfollowed := true, recurses := true, named := ["unicode/utf8.first", "unicode/utf8.acceptRanges", "internal/bytealg.MaxLen"], apart := false, laid := [("unicode/utf8.acceptRanges", laid_unicode_utf8_acceptRanges), ("unicode/utf8.first", laid_unicode_utf8_first)] }
def PermissionCoversSaid : Prop := permissionCoversRow.holds Tryd.pinned (OpenSpec.ofChange permissionCoversSpec)

/-- ITS FALSE NEIGHBOUR: 'it returns false'. Refute it at one input. -/
def permissionCoversWrong : ChangeSpec := { name := "permissionCovers", fn := fun _ => fun
  | [d1, d2] => { results := [.lit (.bool false)], args := [d1, d2] }
  | _ => none }
def PermissionCoversWrongFalsely : Prop := permissionCoversRow.holds Tryd.pinned (OpenSpec.ofChange permissionCoversWrong)

/-- 'arbaclaw11.PermissionImplies': WHATEVER THE INPUT: true; the input reads as it did. -/
def permissionImpliesSpec : ChangeSpec := { name := "permissionImplies", fn := fun _ => fun
  | [d1, d2, d3] => { results := [.lit (.bool true)], args := [d1, d2, d3] }
  | _ => none }
def permissionImpliesRow : OpenClaim := { program := "ytgnphpimkfcmlaadoor", sum := "4f8344fa7fdf1ba4b56d1b8c1674897f29f717e63ecc30865fb04248ecc61a20", func := "arbac/arbaclaw11.PermissionImplies", spec := "permissionImplies", inPlace := ["internal/bytealg.CountString", "internal/bytealg.IndexByteString", "internal/bytealg.IndexString"], unfollowed := true, recurses := true, named := ["unicode/utf8.first", "unicode/utf8.acceptRanges", "internal/bytealg.MaxLen"], apart := false, laid := [("unicode/utf8.acceptRanges", laid_unicode_utf8_acceptRanges), ("unicode/utf8.first", laid_unicode_utf8_first)] }
def PermissionImpliesSaid : Prop := permissionImpliesRow.holds Tryd.pinned (OpenSpec.ofChange permissionImpliesSpec)

/-- ITS FALSE NEIGHBOUR: 'it returns false'. Refute it at one input. -/
def permissionImpliesWrong : ChangeSpec := { name := "permissionImplies", fn := fun _ => fun
  | [d1, d2, d3] => { results := [.lit (.bool false)], args := [d1, d2, d3] }
  | _ => none }
def PermissionImpliesWrongFalsely : Prop := permissionImpliesRow.holds Tryd.pinned (OpenSpec.ofChange permissionImpliesWrong)

/-- 'arbaclaw11.PermissionOrder': WHATEVER THE INPUT: true; the input reads as it did. -/
def permissionOrderSpec : ChangeSpec := { name := "permissionOrder", fn := fun _ => fun
  | [d1, d2, d3] => { results := [.lit (.bool true)], args := [d1, d2, d3] }
  | _ => none }
def permissionOrderRow : OpenClaim := { program := "ytgnphpimkfcmlaadoor", sum := "4f8344fa7fdf1ba4b56d1b8c1674897f29f717e63ecc30865fb04248ecc61a20", func := "arbac/arbaclaw11.PermissionOrder", spec := "permissionOrder", inPlace := ["internal/bytealg.CountString", "internal/bytealg.IndexByteString", "internal/bytealg.IndexString"], unfollowed := true, recurses := true, named := ["unicode/utf8.first", "unicode/utf8.acceptRanges", "internal/bytealg.MaxLen"], apart := false, laid := [("unicode/utf8.acceptRanges", laid_unicode_utf8_acceptRanges), ("unicode/utf8.first", laid_unicode_utf8_first)] }
def PermissionOrderSaid : Prop := permissionOrderRow.holds Tryd.pinned (OpenSpec.ofChange permissionOrderSpec)

/-- ITS FALSE NEIGHBOUR: 'it returns false'. Refute it at one input. -/
def permissionOrderWrong : ChangeSpec := { name := "permissionOrder", fn := fun _ => fun
  | [d1, d2, d3] => { results := [.lit (.bool false)], args := [d1, d2, d3] }
  | _ => none }
def PermissionOrderWrongFalsely : Prop := permissionOrderRow.holds Tryd.pinned (OpenSpec.ofChange permissionOrderWrong)

/-- 'arbaclaw11.PermissionNormal': WHATEVER THE INPUT: true; the input reads as it did. -/
def permissionNormalSpec : ChangeSpec := { name := "permissionNormal", fn := fun _ => fun
  | [d1, d2] => { results := [.lit (.bool true)], args := [d1, d2] }
  | _ => none }
def permissionNormalRow : OpenClaim := { program := "ytgnphpimkfcmlaadoor", sum := "4f8344fa7fdf1ba4b56d1b8c1674897f29f717e63ecc30865fb04248ecc61a20", func := "arbac/arbaclaw11.PermissionNormal", spec := "permissionNormal", inPlace := ["internal/bytealg.CountString", "internal/bytealg.IndexByteString", "internal/bytealg.IndexString"], unfollowed := true, recurses := true, named := ["unicode/utf8.first", "unicode/utf8.acceptRanges", "internal/bytealg.MaxLen"], apart := false, laid := [("unicode/utf8.acceptRanges", laid_unicode_utf8_acceptRanges), ("unicode/utf8.first", laid_unicode_utf8_first)] }
def PermissionNormalSaid : Prop := permissionNormalRow.holds Tryd.pinned (OpenSpec.ofChange permissionNormalSpec)

/-- ITS FALSE NEIGHBOUR: 'it returns false'. Refute it at one input. -/
def permissionNormalWrong : ChangeSpec := { name := "permissionNormal", fn := fun _ => fun
  | [d1, d2] => { results := [.lit (.bool false)], args := [d1, d2] }
  | _ => none }
def PermissionNormalWrongFalsely : Prop := permissionNormalRow.holds Tryd.pinned (OpenSpec.ofChange permissionNormalWrong)

/-- 'arbaclaw11.PermissionSame': WHATEVER THE INPUT: true; the input reads as it did. -/
def permissionSameSpec : ChangeSpec := { name := "permissionSame", fn := fun _ => fun
  | [d1, d2] => { results := [.lit (.bool true)], args := [d1, d2] }
  | _ => none }
def permissionSameRow : OpenClaim := { program := "ytgnphpimkfcmlaadoor", sum := "4f8344fa7fdf1ba4b56d1b8c1674897f29f717e63ecc30865fb04248ecc61a20", func := "arbac/arbaclaw11.PermissionSame", spec := "permissionSame", inPlace := ["internal/bytealg.CountString", "internal/bytealg.IndexByteString", "internal/bytealg.IndexString"], unfollowed := true, recurses := true, named := ["unicode/utf8.first", "unicode/utf8.acceptRanges", "internal/bytealg.MaxLen"], apart := false, laid := [("unicode/utf8.acceptRanges", laid_unicode_utf8_acceptRanges), ("unicode/utf8.first", laid_unicode_utf8_first)] }
def PermissionSameSaid : Prop := permissionSameRow.holds Tryd.pinned (OpenSpec.ofChange permissionSameSpec)

/-- ITS FALSE NEIGHBOUR: 'it returns false'. Refute it at one input. -/
def permissionSameWrong : ChangeSpec := { name := "permissionSame", fn := fun _ => fun
  | [d1, d2] => { results := [.lit (.bool false)], args := [d1, d2] }
  | _ => none }
def PermissionSameWrongFalsely : Prop := permissionSameRow.holds Tryd.pinned (OpenSpec.ofChange permissionSameWrong)

/-- 'arbaclaw11.PermissionCommon': WHATEVER THE INPUT: true; the input reads as it did. -/
def permissionCommonSpec : ChangeSpec := { name := "permissionCommon", fn := fun _ => fun
  | [d1, d2, d3] => { results := [.lit (.bool true)], args := [d1, d2, d3] }
  | _ => none }
def permissionCommonRow : OpenClaim := { program := "ytgnphpimkfcmlaadoor", sum := "4f8344fa7fdf1ba4b56d1b8c1674897f29f717e63ecc30865fb04248ecc61a20", func := "arbac/arbaclaw11.PermissionCommon", spec := "permissionCommon", inPlace := ["internal/bytealg.CountString", "internal/bytealg.IndexByteString", "internal/bytealg.IndexString"], unfollowed := true, recurses := true, named := ["unicode/utf8.first", "unicode/utf8.acceptRanges", "internal/bytealg.MaxLen"], apart := false, laid := [("unicode/utf8.acceptRanges", laid_unicode_utf8_acceptRanges), ("unicode/utf8.first", laid_unicode_utf8_first)] }
def PermissionCommonSaid : Prop := permissionCommonRow.holds Tryd.pinned (OpenSpec.ofChange permissionCommonSpec)

/-- ITS FALSE NEIGHBOUR: 'it returns false'. Refute it at one input. -/
def permissionCommonWrong : ChangeSpec := { name := "permissionCommon", fn := fun _ => fun
  | [d1, d2, d3] => { results := [.lit (.bool false)], args := [d1, d2, d3] }
  | _ => none }
def PermissionCommonWrongFalsely : Prop := permissionCommonRow.holds Tryd.pinned (OpenSpec.ofChange permissionCommonWrong)

/-- 'arbaclaw11.PermissionMinus': WHATEVER THE INPUT: true; the input reads as it did. -/
def permissionMinusSpec : ChangeSpec := { name := "permissionMinus", fn := fun _ => fun
  | [d1, d2] => { results := [.lit (.bool true)], args := [d1, d2] }
  | _ => none }
def permissionMinusRow : OpenClaim := { program := "ytgnphpimkfcmlaadoor", sum := "4f8344fa7fdf1ba4b56d1b8c1674897f29f717e63ecc30865fb04248ecc61a20", func := "arbac/arbaclaw11.PermissionMinus", spec := "permissionMinus", inPlace := ["internal/bytealg.CountString", "internal/bytealg.IndexByteString", "internal/bytealg.IndexString"], unfollowed := true, recurses := true, named := ["unicode/utf8.first", "unicode/utf8.acceptRanges", "internal/bytealg.MaxLen"], apart := false, laid := [("unicode/utf8.acceptRanges", laid_unicode_utf8_acceptRanges), ("unicode/utf8.first", laid_unicode_utf8_first)] }
def PermissionMinusSaid : Prop := permissionMinusRow.holds Tryd.pinned (OpenSpec.ofChange permissionMinusSpec)

/-- ITS FALSE NEIGHBOUR: 'it returns false'. Refute it at one input. -/
def permissionMinusWrong : ChangeSpec := { name := "permissionMinus", fn := fun _ => fun
  | [d1, d2] => { results := [.lit (.bool false)], args := [d1, d2] }
  | _ => none }
def PermissionMinusWrongFalsely : Prop := permissionMinusRow.holds Tryd.pinned (OpenSpec.ofChange permissionMinusWrong)

/-- 'arbaclaw11.PermissionTexts': WHATEVER THE INPUT: true; the input reads as it did. -/
def permissionTextsSpec : ChangeSpec := { name := "permissionTexts", fn := fun _ => fun
  | [d1, d2] => { results := [.lit (.bool true)], args := [d1, d2] }
  | _ => none }
def permissionTextsRow : OpenClaim := { program := "ytgnphpimkfcmlaadoor", sum := "4f8344fa7fdf1ba4b56d1b8c1674897f29f717e63ecc30865fb04248ecc61a20", func := "arbac/arbaclaw11.PermissionTexts", spec := "permissionTexts", inPlace := ["internal/bytealg.CountString", "internal/bytealg.IndexByteString", "internal/bytealg.IndexString"], unfollowed := true, recurses := true, named := ["unicode/utf8.first", "unicode/utf8.acceptRanges", "internal/bytealg.MaxLen"], apart := false, laid := [("unicode/utf8.acceptRanges", laid_unicode_utf8_acceptRanges), ("unicode/utf8.first", laid_unicode_utf8_first)] }
def PermissionTextsSaid : Prop := permissionTextsRow.holds Tryd.pinned (OpenSpec.ofChange permissionTextsSpec)

/-- ITS FALSE NEIGHBOUR: 'it returns false'. Refute it at one input. -/
def permissionTextsWrong : ChangeSpec := { name := "permissionTexts", fn := fun _ => fun
  | [d1, d2] => { results := [.lit (.bool false)], args := [d1, d2] }
  | _ => none }
def PermissionTextsWrongFalsely : Prop := permissionTextsRow.holds Tryd.pinned (OpenSpec.ofChange permissionTextsWrong)

/-- 'arbaclaw11.PermissionTree': WHATEVER THE INPUT: true; the input reads as it did. -/
def permissionTreeSpec : ChangeSpec := { name := "permissionTree", fn := fun _ => fun
  | [d1, d2] => { results := [.lit (.bool true)], args := [d1, d2] }
  | _ => none }
def permissionTreeRow : OpenClaim := { program := "ytgnphpimkfcmlaadoor", sum := "4f8344fa7fdf1ba4b56d1b8c1674897f29f717e63ecc30865fb04248ecc61a20", func := "arbac/arbaclaw11.PermissionTree", spec := "permissionTree", inPlace := ["internal/bytealg.CountString", "internal/bytealg.IndexByteString", "internal/bytealg.IndexString", "internal/abi.NoEscape", "internal/bytealg.MakeNoZero"], unfollowed := true, recurses := true, named := ["unicode/utf8.first", "unicode/utf8.acceptRanges", "internal/bytealg.MaxLen"], apart := false, laid := [("unicode/utf8.acceptRanges", laid_unicode_utf8_acceptRanges), ("unicode/utf8.first", laid_unicode_utf8_first)] }
def PermissionTreeSaid : Prop := permissionTreeRow.holds Tryd.pinned (OpenSpec.ofChange permissionTreeSpec)

/-- ITS FALSE NEIGHBOUR: 'it returns false'. Refute it at one input. -/
def permissionTreeWrong : ChangeSpec := { name := "permissionTree", fn := fun _ => fun
  | [d1, d2] => { results := [.lit (.bool false)], args := [d1, d2] }
  | _ => none }
def PermissionTreeWrongFalsely : Prop := permissionTreeRow.holds Tryd.pinned (OpenSpec.ofChange permissionTreeWrong)

/- THE SECOND FORM. 'bulk': how many values and letters a reading holds, each counted each time it is reached (what is shared counts as often as it is met; a slice's spare places count too). A statement '..UptoSaid' is the law's where the arguments, and the package variables that the reading takes, are together of bulk at most 1048576: NARROWER than '..Said'. Prove '..Said' where nothing that the law and all that it calls make is longer than what came in: it says more and counts as full. Else prove '..UptoSaid'. A law counts once. -/
mutual
def uptoBulk {H : Type} : DataW H → Nat
  | .lit (.string bytes) => bytes.length + 1
  | .lit _ => 1
  | .nil => 1
  | .ptr d => uptoBulk d + 1
  | .slice elems spare => uptoBulkAll elems + uptoBulkAll spare + 1
  | .agg parts => uptoBulkAll parts + 1
  | .iface _ d => uptoBulk d + 1
  | .map entries => uptoBulkEntries entries + 1
  | .held _ => 1
def uptoBulkAll {H : Type} : List (DataW H) → Nat
  | [] => 0
  | d :: r => uptoBulk d + uptoBulkAll r
def uptoBulkEntries {H : Type} : List (Lit × DataW H) → Nat
  | [] => 0
  | x :: r => uptoBulkEntry x + uptoBulkEntries r
def uptoBulkEntry {H : Type} : Lit × DataW H → Nat
  | (.string bytes, d) => bytes.length + uptoBulk d + 1
  | (_, d) => uptoBulk d + 1
 end
def uptoSmall : (H : Type) → List (DataW H) → Bool := fun _ ds => decide (uptoBulkAll ds ≤ 1048576)
def OpenSpec.upto (s : _root_.Go.ChangeSpec) : _root_.Go.OpenSpec := { _root_.Go.OpenSpec.ofChange s with cond := some uptoSmall }

/-- 'arbaclaw11.PermissionChecks', WHERE WHAT IT READS IS OF BULK AT MOST 1048576: true; the input reads as it did. -/
def permissionChecksUptoRow : OpenClaim := { program := "ytgnphpimkfcmlaadoor", sum := "4f8344fa7fdf1ba4b56d1b8c1674897f29f717e63ecc30865fb04248ecc61a20", func := "arbac/arbaclaw11.PermissionChecks", spec := "permissionChecks", inPlace := ["internal/bytealg.CountString", "internal/bytealg.IndexByteString", "internal/bytealg.IndexString"], unfollowed := true, recurses := true, named := ["unicode/utf8.first", "unicode/utf8.acceptRanges", "internal/bytealg.MaxLen"], apart := false, laid := [("unicode/utf8.acceptRanges", laid_unicode_utf8_acceptRanges), ("unicode/utf8.first", laid_unicode_utf8_first)], narrowed := true }
def PermissionChecksUptoSaid : Prop := permissionChecksUptoRow.holds Tryd.pinned (OpenSpec.upto permissionChecksSpec)

/-- 'arbaclaw11.PermissionCovers', WHERE WHAT IT READS IS OF BULK AT MOST 1048576: true; the input reads as it did. -/
def permissionCoversUptoRow : OpenClaim := { program := "ytgnphpimkfcmlaadoor", sum := "4f8344fa7fdf1ba4b56d1b8c1674897f29f717e63ecc30865fb04248ecc61a20", func := "arbac/arbaclaw11.PermissionCovers", spec := "permissionCovers", inPlace := ["internal/bytealg.CountString", "internal/bytealg.IndexByteString", "internal/bytealg.IndexString"], unfollowed := true, recurses := true, named := ["unicode/utf8.first", "unicode/utf8.acceptRanges", "internal/bytealg.MaxLen"], apart := false, laid := [("unicode/utf8.acceptRanges", laid_unicode_utf8_acceptRanges), ("unicode/utf8.first", laid_unicode_utf8_first)], narrowed := true }
def PermissionCoversUptoSaid : Prop := permissionCoversUptoRow.holds Tryd.pinned (OpenSpec.upto permissionCoversSpec)

/-- 'arbaclaw11.PermissionImplies', WHERE WHAT IT READS IS OF BULK AT MOST 1048576: true; the input reads as it did. -/
def permissionImpliesUptoRow : OpenClaim := { program := "ytgnphpimkfcmlaadoor", sum := "4f8344fa7fdf1ba4b56d1b8c1674897f29f717e63ecc30865fb04248ecc61a20", func := "arbac/arbaclaw11.PermissionImplies", spec := "permissionImplies", inPlace := ["internal/bytealg.CountString", "internal/bytealg.IndexByteString", "internal/bytealg.IndexString"], unfollowed := true, recurses := true, named := ["unicode/utf8.first", "unicode/utf8.acceptRanges", "internal/bytealg.MaxLen"], apart := false, laid := [("unicode/utf8.acceptRanges", laid_unicode_utf8_acceptRanges), ("unicode/utf8.first", laid_unicode_utf8_first)], narrowed := true }
def PermissionImpliesUptoSaid : Prop := permissionImpliesUptoRow.holds Tryd.pinned (OpenSpec.upto permissionImpliesSpec)

/-- 'arbaclaw11.PermissionOrder', WHERE WHAT IT READS IS OF BULK AT MOST 1048576: true; the input reads as it did. -/
def permissionOrderUptoRow : OpenClaim := { program := "ytgnphpimkfcmlaadoor", sum := "4f8344fa7fdf1ba4b56d1b8c1674897f29f717e63ecc30865fb04248ecc61a20", func := "arbac/arbaclaw11.PermissionOrder", spec := "permissionOrder", inPlace := ["internal/bytealg.CountString", "internal/bytealg.IndexByteString", "internal/bytealg.IndexString"], unfollowed := true, recurses := true, named := ["unicode/utf8.first", "unicode/utf8.acceptRanges", "internal/bytealg.MaxLen"], apart := false, laid := [("unicode/utf8.acceptRanges", laid_unicode_utf8_acceptRanges), ("unicode/utf8.first", laid_unicode_utf8_first)], narrowed := true }
def PermissionOrderUptoSaid : Prop := permissionOrderUptoRow.holds Tryd.pinned (OpenSpec.upto permissionOrderSpec)

/-- 'arbaclaw11.PermissionNormal', WHERE WHAT IT READS IS OF BULK AT MOST 1048576: true; the input reads as it did. -/
def permissionNormalUptoRow : OpenClaim := { program := "ytgnphpimkfcmlaadoor", sum := "4f8344fa7fdf1ba4b56d1b8c1674897f29f717e63ecc30865fb04248ecc61a20", func := "arbac/arbaclaw11.PermissionNormal", spec := "permissionNormal", inPlace := ["internal/bytealg.CountString", "internal/bytealg.IndexByteString", "internal/bytealg.IndexString"], unfollowed := true, recurses := true, named := ["unicode/utf8.first", "unicode/utf8.acceptRanges", "internal/bytealg.MaxLen"], apart := false, laid := [("unicode/utf8.acceptRanges", laid_unicode_utf8_acceptRanges), ("unicode/utf8.first", laid_unicode_utf8_first)], narrowed := true }
def PermissionNormalUptoSaid : Prop := permissionNormalUptoRow.holds Tryd.pinned (OpenSpec.upto permissionNormalSpec)

/-- 'arbaclaw11.PermissionSame', WHERE WHAT IT READS IS OF BULK AT MOST 1048576: true; the input reads as it did. -/
def permissionSameUptoRow : OpenClaim := { program := "ytgnphpimkfcmlaadoor", sum := "4f8344fa7fdf1ba4b56d1b8c1674897f29f717e63ecc30865fb04248ecc61a20", func := "arbac/arbaclaw11.PermissionSame", spec := "permissionSame", inPlace := ["internal/bytealg.CountString", "internal/bytealg.IndexByteString", "internal/bytealg.IndexString"], unfollowed := true, recurses := true, named := ["unicode/utf8.first", "unicode/utf8.acceptRanges", "internal/bytealg.MaxLen"], apart := false, laid := [("unicode/utf8.acceptRanges", laid_unicode_utf8_acceptRanges), ("unicode/utf8.first", laid_unicode_utf8_first)], narrowed := true }
def PermissionSameUptoSaid : Prop := permissionSameUptoRow.holds Tryd.pinned (OpenSpec.upto permissionSameSpec)

/-- 'arbaclaw11.PermissionCommon', WHERE WHAT IT READS IS OF BULK AT MOST 1048576: true; the input reads as it did. -/
def permissionCommonUptoRow : OpenClaim := { program := "ytgnphpimkfcmlaadoor", sum := "4f8344fa7fdf1ba4b56d1b8c1674897f29f717e63ecc30865fb04248ecc61a20", func := "arbac/arbaclaw11.PermissionCommon", spec := "permissionCommon", inPlace := ["internal/bytealg.CountString", "internal/bytealg.IndexByteString", "internal/bytealg.IndexString"], unfollowed := true, recurses := true, named := ["unicode/utf8.first", "unicode/utf8.acceptRanges", "internal/bytealg.MaxLen"], apart := false, laid := [("unicode/utf8.acceptRanges", laid_unicode_utf8_acceptRanges), ("unicode/utf8.first", laid_unicode_utf8_first)], narrowed := true }
def PermissionCommonUptoSaid : Prop := permissionCommonUptoRow.holds Tryd.pinned (OpenSpec.upto permissionCommonSpec)

/-- 'arbaclaw11.PermissionMinus', WHERE WHAT IT READS IS OF BULK AT MOST 1048576: true; the input reads as it did. -/
def permissionMinusUptoRow : OpenClaim := { program := "ytgnphpimkfcmlaadoor", sum := "4f8344fa7fdf1ba4b56d1b8c1674897f29f717e63ecc30865fb04248ecc61a20", func := "arbac/arbaclaw11.PermissionMinus", spec := "permissionMinus", inPlace := ["internal/bytealg.CountString", "internal/bytealg.IndexByteString", "internal/bytealg.IndexString"], unfollowed := true, recurses := true, named := ["unicode/utf8.first", "unicode/utf8.acceptRanges", "internal/bytealg.MaxLen"], apart := false, laid := [("unicode/utf8.acceptRanges", laid_unicode_utf8_acceptRanges), ("unicode/utf8.first", laid_unicode_utf8_first)], narrowed := true }
def PermissionMinusUptoSaid : Prop := permissionMinusUptoRow.holds Tryd.pinned (OpenSpec.upto permissionMinusSpec)

/-- 'arbaclaw11.PermissionTexts', WHERE WHAT IT READS IS OF BULK AT MOST 1048576: true; the input reads as it did. -/
def permissionTextsUptoRow : OpenClaim := { program := "ytgnphpimkfcmlaadoor", sum := "4f8344fa7fdf1ba4b56d1b8c1674897f29f717e63ecc30865fb04248ecc61a20", func := "arbac/arbaclaw11.PermissionTexts", spec := "permissionTexts", inPlace := ["internal/bytealg.CountString", "internal/bytealg.IndexByteString", "internal/bytealg.IndexString"], unfollowed := true, recurses := true, named := ["unicode/utf8.first", "unicode/utf8.acceptRanges", "internal/bytealg.MaxLen"], apart := false, laid := [("unicode/utf8.acceptRanges", laid_unicode_utf8_acceptRanges), ("unicode/utf8.first", laid_unicode_utf8_first)], narrowed := true }
def PermissionTextsUptoSaid : Prop := permissionTextsUptoRow.holds Tryd.pinned (OpenSpec.upto permissionTextsSpec)

/-- 'arbaclaw11.PermissionTree', WHERE WHAT IT READS IS OF BULK AT MOST 1048576: true; the input reads as it did. -/
def permissionTreeUptoRow : OpenClaim := { program := "ytgnphpimkfcmlaadoor", sum := "4f8344fa7fdf1ba4b56d1b8c1674897f29f717e63ecc30865fb04248ecc61a20", func := "arbac/arbaclaw11.PermissionTree", spec := "permissionTree", inPlace := ["internal/bytealg.CountString", "internal/bytealg.IndexByteString", "internal/bytealg.IndexString", "internal/abi.NoEscape", "internal/bytealg.MakeNoZero"], unfollowed := true, recurses := true, named := ["unicode/utf8.first", "unicode/utf8.acceptRanges", "internal/bytealg.MaxLen"], apart := false, laid := [("unicode/utf8.acceptRanges", laid_unicode_utf8_acceptRanges), ("unicode/utf8.first", laid_unicode_utf8_first)], narrowed := true }
def PermissionTreeUptoSaid : Prop := permissionTreeUptoRow.holds Tryd.pinned (OpenSpec.upto permissionTreeSpec)

end Rows
end Go.Proofs.YtgnphpimkfcmlaaDoor
