/-
  NARROWER THAN 'FOR EVERY INPUT', by the rows' own cells (each row's printed sentence says how): SessionKeeps: laid · SessionEquals: laid · SessionBytes: laid · SessionGrants: laid.
  DERIVED. THE GIVEN ROWS OF THIS SEAT. 4 by the template 'for every input the law returns true; each argument reads behind the call as it read before'; 0 by the template 'total and deterministic' (their statements: YtncmjgmlnnenhaaGreatDoorTotals.lean).
  GIVEN WITH THE SEED: the statements are not yours to turn. If you find one false, say at which input.
  Laid BY PROGRAM, IN A SANDBOX (cutbox-rows.mjs): the forced cells as the released guide's own fill.sh prints them over the translation eb0819684b0051b6… (all of the seat's roots in one cut). By AI agents, Wed Nov 11 2026. No macro, syntax, notation, axiom, sorry.
-/
import Derived.Test.YtncmjgmlnnenhaaGreatDoorChecked
import GoSem.PinnedTables
import GoSem.Claim
import GoSem.ClaimJoined
import GoSem.ClaimMapViews
import Derived.JoinedTies
import Derived.KernelRfl
namespace Go.Proofs.YtncmjgmlnnenhaaGreatDoor
/- THE CELL 'sum', in the pinned program and in every row, IS THE sha256 OF THE DUMP (.gsa) THAT YtncmjgmlnnenhaaGreatDoorProg.lean LOADS. Nothing in Lean hashes anything: it is a label: what it is worth is what the hold of that sum in a sandbox is worth. -/
noncomputable def Tryz.pinned : Pinned := { name := "ytncmjgmlnnenhaagreatdoor", sum := "eb0819684b0051b64e62b0749896777bbc4c0fba519afe1ce27ffd1d030b0f5d", checked := Tryz.checked }
namespace Rows
def none {H : Type} : Left H := { results := [], args := [] }

/- WHAT THE LISTED PACKAGE-LEVEL VARIABLES READ AS WHEN THE CALL BEGINS. Each datum BY PROGRAM (the guide's laid-datum.mjs) off the statement by which the dump's own 'gosem.cut.vars' lays the variable. In a bare row this is a premise. The card (YtncmjgmlnnenhaaGreatDoorCards.lean) ties it to the program's text. -/
def laid_math_bits_deBruijn64tab {H : Type} : DataW H := .agg [.lit (.int .u8 0), .lit (.int .u8 1), .lit (.int .u8 56), .lit (.int .u8 2), .lit (.int .u8 57), .lit (.int .u8 49), .lit (.int .u8 28), .lit (.int .u8 3), .lit (.int .u8 61), .lit (.int .u8 58), .lit (.int .u8 42), .lit (.int .u8 50), .lit (.int .u8 38), .lit (.int .u8 29), .lit (.int .u8 17), .lit (.int .u8 4), .lit (.int .u8 62), .lit (.int .u8 47), .lit (.int .u8 59), .lit (.int .u8 36), .lit (.int .u8 45), .lit (.int .u8 43), .lit (.int .u8 51), .lit (.int .u8 22), .lit (.int .u8 53), .lit (.int .u8 39), .lit (.int .u8 33), .lit (.int .u8 30), .lit (.int .u8 24), .lit (.int .u8 18), .lit (.int .u8 12), .lit (.int .u8 5), .lit (.int .u8 63), .lit (.int .u8 55), .lit (.int .u8 48), .lit (.int .u8 27), .lit (.int .u8 60), .lit (.int .u8 41), .lit (.int .u8 37), .lit (.int .u8 16), .lit (.int .u8 46), .lit (.int .u8 35), .lit (.int .u8 44), .lit (.int .u8 21), .lit (.int .u8 52), .lit (.int .u8 32), .lit (.int .u8 23), .lit (.int .u8 11), .lit (.int .u8 54), .lit (.int .u8 26), .lit (.int .u8 40), .lit (.int .u8 15), .lit (.int .u8 34), .lit (.int .u8 20), .lit (.int .u8 31), .lit (.int .u8 10), .lit (.int .u8 25), .lit (.int .u8 14), .lit (.int .u8 19), .lit (.int .u8 9), .lit (.int .u8 13), .lit (.int .u8 8), .lit (.int .u8 7), .lit (.int .u8 6)]
def laid_unicode_utf8_acceptRanges {H : Type} : DataW H := .agg [.agg [.lit (.int .u8 128), .lit (.int .u8 191)], .agg [.lit (.int .u8 160), .lit (.int .u8 191)], .agg [.lit (.int .u8 128), .lit (.int .u8 159)], .agg [.lit (.int .u8 144), .lit (.int .u8 191)], .agg [.lit (.int .u8 128), .lit (.int .u8 143)], .agg [.lit (.int .u8 0), .lit (.int .u8 0)], .agg [.lit (.int .u8 0), .lit (.int .u8 0)], .agg [.lit (.int .u8 0), .lit (.int .u8 0)], .agg [.lit (.int .u8 0), .lit (.int .u8 0)], .agg [.lit (.int .u8 0), .lit (.int .u8 0)], .agg [.lit (.int .u8 0), .lit (.int .u8 0)], .agg [.lit (.int .u8 0), .lit (.int .u8 0)], .agg [.lit (.int .u8 0), .lit (.int .u8 0)], .agg [.lit (.int .u8 0), .lit (.int .u8 0)], .agg [.lit (.int .u8 0), .lit (.int .u8 0)], .agg [.lit (.int .u8 0), .lit (.int .u8 0)]]
/-- One of Go's own tables, pinned by name: the form's constant. -/
def laid_unicode_utf8_first : DataW Unit := Go.Pinned.utf8First

/-- 'arbaclaw22.SessionKeeps': WHATEVER THE INPUT: true; the input reads as it did. -/
def sessionKeepsSpec : ChangeSpec := { name := "sessionKeeps", fn := fun _ => fun
  | [d1, d2] => { results := [.lit (.bool true)], args := [d1, d2] }
  | _ => none }
def sessionKeepsRow : OpenClaim := { program := "ytncmjgmlnnenhaagreatdoor", sum := "eb0819684b0051b64e62b0749896777bbc4c0fba519afe1ce27ffd1d030b0f5d", func := "arbac/arbaclaw22.SessionKeeps", spec := "sessionKeeps", inPlace := ["slices.overlaps[arbac/session.Session]"], unfollowed := true, recurses := true, named := ["math/bits.deBruijn64tab"], apart := false, laid := [("math/bits.deBruijn64tab", laid_math_bits_deBruijn64tab)] }
def SessionKeepsSaid : Prop := sessionKeepsRow.holds Tryz.pinned (OpenSpec.ofChange sessionKeepsSpec)

/-- ITS FALSE NEIGHBOUR: 'it returns false'. Refute it at one input. -/
def sessionKeepsWrong : ChangeSpec := { name := "sessionKeeps", fn := fun _ => fun
  | [d1, d2] => { results := [.lit (.bool false)], args := [d1, d2] }
  | _ => none }
def SessionKeepsWrongFalsely : Prop := sessionKeepsRow.holds Tryz.pinned (OpenSpec.ofChange sessionKeepsWrong)

/-- 'arbaclaw22.SessionEquals': WHATEVER THE INPUT: true; the input reads as it did. -/
def sessionEqualsSpec : ChangeSpec := { name := "sessionEquals", fn := fun _ => fun
  | [d1, d2, d3] => { results := [.lit (.bool true)], args := [d1, d2, d3] }
  | _ => none }
def sessionEqualsRow : OpenClaim := { program := "ytncmjgmlnnenhaagreatdoor", sum := "eb0819684b0051b64e62b0749896777bbc4c0fba519afe1ce27ffd1d030b0f5d", func := "arbac/arbaclaw22.SessionEquals", spec := "sessionEquals", inPlace := ["slices.overlaps[arbac/session.Session]"], unfollowed := true, recurses := true, named := ["math/bits.deBruijn64tab"], apart := false, laid := [("math/bits.deBruijn64tab", laid_math_bits_deBruijn64tab)] }
def SessionEqualsSaid : Prop := sessionEqualsRow.holds Tryz.pinned (OpenSpec.ofChange sessionEqualsSpec)

/-- ITS FALSE NEIGHBOUR: 'it returns false'. Refute it at one input. -/
def sessionEqualsWrong : ChangeSpec := { name := "sessionEquals", fn := fun _ => fun
  | [d1, d2, d3] => { results := [.lit (.bool false)], args := [d1, d2, d3] }
  | _ => none }
def SessionEqualsWrongFalsely : Prop := sessionEqualsRow.holds Tryz.pinned (OpenSpec.ofChange sessionEqualsWrong)

/-- 'arbaclaw22.SessionBytes': WHATEVER THE INPUT: true; the input reads as it did. -/
def sessionBytesSpec : ChangeSpec := { name := "sessionBytes", fn := fun _ => fun
  | [d1, d2] => { results := [.lit (.bool true)], args := [d1, d2] }
  | _ => none }
def sessionBytesRow : OpenClaim := { program := "ytncmjgmlnnenhaagreatdoor", sum := "eb0819684b0051b64e62b0749896777bbc4c0fba519afe1ce27ffd1d030b0f5d", func := "arbac/arbaclaw22.SessionBytes", spec := "sessionBytes", inPlace := ["slices.overlaps[arbac/session.Session]"], unfollowed := true, recurses := true, named := ["math/bits.deBruijn64tab"], apart := false, laid := [("math/bits.deBruijn64tab", laid_math_bits_deBruijn64tab)] }
def SessionBytesSaid : Prop := sessionBytesRow.holds Tryz.pinned (OpenSpec.ofChange sessionBytesSpec)

/-- ITS FALSE NEIGHBOUR: 'it returns false'. Refute it at one input. -/
def sessionBytesWrong : ChangeSpec := { name := "sessionBytes", fn := fun _ => fun
  | [d1, d2] => { results := [.lit (.bool false)], args := [d1, d2] }
  | _ => none }
def SessionBytesWrongFalsely : Prop := sessionBytesRow.holds Tryz.pinned (OpenSpec.ofChange sessionBytesWrong)

/-- 'arbaclaw22.SessionGrants': WHATEVER THE INPUT: true; the input reads as it did. -/
def sessionGrantsSpec : ChangeSpec := { name := "sessionGrants", fn := fun _ => fun
  | [d1, d2, d3] => { results := [.lit (.bool true)], args := [d1, d2, d3] }
  | _ => none }
def sessionGrantsRow : OpenClaim := { program := "ytncmjgmlnnenhaagreatdoor", sum := "eb0819684b0051b64e62b0749896777bbc4c0fba519afe1ce27ffd1d030b0f5d", func := "arbac/arbaclaw22.SessionGrants", spec := "sessionGrants", inPlace := ["slices.overlaps[arbac/session.Session]", "internal/bytealg.CountString", "internal/bytealg.IndexByteString", "internal/bytealg.IndexString", "slices.overlaps[arbac/grant.Entry]"], unfollowed := true, recurses := true, named := ["math/bits.deBruijn64tab", "unicode/utf8.first", "unicode/utf8.acceptRanges", "internal/bytealg.MaxLen"], apart := false, laid := [("math/bits.deBruijn64tab", laid_math_bits_deBruijn64tab), ("unicode/utf8.acceptRanges", laid_unicode_utf8_acceptRanges), ("unicode/utf8.first", laid_unicode_utf8_first)] }
def SessionGrantsSaid : Prop := sessionGrantsRow.holds Tryz.pinned (OpenSpec.ofChange sessionGrantsSpec)

/-- ITS FALSE NEIGHBOUR: 'it returns false'. Refute it at one input. -/
def sessionGrantsWrong : ChangeSpec := { name := "sessionGrants", fn := fun _ => fun
  | [d1, d2, d3] => { results := [.lit (.bool false)], args := [d1, d2, d3] }
  | _ => none }
def SessionGrantsWrongFalsely : Prop := sessionGrantsRow.holds Tryz.pinned (OpenSpec.ofChange sessionGrantsWrong)

/- THE SECOND FORM. 'bulk': how many values and letters a reading holds, each counted each time it is reached (what is shared counts as often as it is met; a slice's spare places count too). A statement '..UptoSaid' is the law's where the arguments, and the package variables that the reading takes, are together of bulk at most 1048576: NARROWER than '..Said'. Prove '..Said' where nothing that the law and all that it calls make is longer than what came in: it says more and counts as full. Else prove '..UptoSaid'. A law counts once. -/
mutual
def uptoBulk {H : Type} : DataW H → Nat
  | .lit (.string bytes) => bytes.length + 1
  | .lit _ => 1
  | .nil => 1
  | .ptr d => uptoBulk d + 1
  | .slice elems spare => uptoBulkAll elems + uptoBulkAll spare + 1
  | .agg parts => uptoBulkAll parts + 1
  | .iface _ d => uptoBulk d + 1
  | .map entries => uptoBulkEntries entries + 1
  | .held _ => 1
def uptoBulkAll {H : Type} : List (DataW H) → Nat
  | [] => 0
  | d :: r => uptoBulk d + uptoBulkAll r
def uptoBulkEntries {H : Type} : List (Lit × DataW H) → Nat
  | [] => 0
  | x :: r => uptoBulkEntry x + uptoBulkEntries r
def uptoBulkEntry {H : Type} : Lit × DataW H → Nat
  | (.string bytes, d) => bytes.length + uptoBulk d + 1
  | (_, d) => uptoBulk d + 1
 end
def uptoSmall : (H : Type) → List (DataW H) → Bool := fun _ ds => decide (uptoBulkAll ds ≤ 1048576)
def OpenSpec.upto (s : _root_.Go.ChangeSpec) : _root_.Go.OpenSpec := { _root_.Go.OpenSpec.ofChange s with cond := some uptoSmall }

/-- 'arbaclaw22.SessionKeeps', WHERE WHAT IT READS IS OF BULK AT MOST 1048576: true; the input reads as it did. -/
def sessionKeepsUptoRow : OpenClaim := { program := "ytncmjgmlnnenhaagreatdoor", sum := "eb0819684b0051b64e62b0749896777bbc4c0fba519afe1ce27ffd1d030b0f5d", func := "arbac/arbaclaw22.SessionKeeps", spec := "sessionKeeps", inPlace := ["slices.overlaps[arbac/session.Session]"], unfollowed := true, recurses := true, named := ["math/bits.deBruijn64tab"], apart := false, laid := [("math/bits.deBruijn64tab", laid_math_bits_deBruijn64tab)], narrowed := true }
def SessionKeepsUptoSaid : Prop := sessionKeepsUptoRow.holds Tryz.pinned (OpenSpec.upto sessionKeepsSpec)

/-- 'arbaclaw22.SessionEquals', WHERE WHAT IT READS IS OF BULK AT MOST 1048576: true; the input reads as it did. -/
def sessionEqualsUptoRow : OpenClaim := { program := "ytncmjgmlnnenhaagreatdoor", sum := "eb0819684b0051b64e62b0749896777bbc4c0fba519afe1ce27ffd1d030b0f5d", func := "arbac/arbaclaw22.SessionEquals", spec := "sessionEquals", inPlace := ["slices.overlaps[arbac/session.Session]"], unfollowed := true, recurses := true, named := ["math/bits.deBruijn64tab"], apart := false, laid := [("math/bits.deBruijn64tab", laid_math_bits_deBruijn64tab)], narrowed := true }
def SessionEqualsUptoSaid : Prop := sessionEqualsUptoRow.holds Tryz.pinned (OpenSpec.upto sessionEqualsSpec)

/-- 'arbaclaw22.SessionBytes', WHERE WHAT IT READS IS OF BULK AT MOST 1048576: true; the input reads as it did. -/
def sessionBytesUptoRow : OpenClaim := { program := "ytncmjgmlnnenhaagreatdoor", sum := "eb0819684b0051b64e62b0749896777bbc4c0fba519afe1ce27ffd1d030b0f5d", func := "arbac/arbaclaw22.SessionBytes", spec := "sessionBytes", inPlace := ["slices.overlaps[arbac/session.Session]"], unfollowed := true, recurses := true, named := ["math/bits.deBruijn64tab"], apart := false, laid := [("math/bits.deBruijn64tab", laid_math_bits_deBruijn64tab)], narrowed := true }
def SessionBytesUptoSaid : Prop := sessionBytesUptoRow.holds Tryz.pinned (OpenSpec.upto sessionBytesSpec)

/-- 'arbaclaw22.SessionGrants', WHERE WHAT IT READS IS OF BULK AT MOST 1048576: true; the input reads as it did. -/
def sessionGrantsUptoRow : OpenClaim := { program := "ytncmjgmlnnenhaagreatdoor", sum := "eb0819684b0051b64e62b0749896777bbc4c0fba519afe1ce27ffd1d030b0f5d", func := "arbac/arbaclaw22.SessionGrants", spec := "sessionGrants", inPlace := ["slices.overlaps[arbac/session.Session]", "internal/bytealg.CountString", "internal/bytealg.IndexByteString", "internal/bytealg.IndexString", "slices.overlaps[arbac/grant.Entry]"], unfollowed := true, recurses := true, named := ["math/bits.deBruijn64tab", "unicode/utf8.first", "unicode/utf8.acceptRanges", "internal/bytealg.MaxLen"], apart := false, laid := [("math/bits.deBruijn64tab", laid_math_bits_deBruijn64tab), ("unicode/utf8.acceptRanges", laid_unicode_utf8_acceptRanges), ("unicode/utf8.first", laid_unicode_utf8_first)], narrowed := true }
def SessionGrantsUptoSaid : Prop := sessionGrantsUptoRow.holds Tryz.pinned (OpenSpec.upto sessionGrantsSpec)

end Rows
end Go.Proofs.YtncmjgmlnnenhaaGreatDoor
