/- Walks: what functions return. -/
import Derived.Test.YtdnkjdmfnmdpdaaGreatDoorWrt
import Derived.Test.YtdnkjdmfnmdpdaaGreatDoorRows
import Derived.Lib.LaidTab
import Derived.LaidMore
import Derived.Stop.LaidErr
set_option linter.unusedVariables false
set_option linter.unusedSimpArgs false
set_option linter.unnecessarySimpa false
namespace Go.Proofs.YtdnkjdmfnmdpdaaGreatDoor
open Go Go.Lx Go.RowKit
set_option maxRecDepth 100000
theorem tbi_of {W : World} (h : laidMetH Tryz.prog [("math/bits.deBruijn32tab", Rows.laid_math_bits_deBruijn32tab), ("math/bits.deBruijn64tab", Rows.laid_math_bits_deBruijn64tab), ("internal/strconv.uint64pow10", Rows.laid_internal_strconv_uint64pow10), ("unicode/utf8.acceptRanges", Rows.laid_unicode_utf8_acceptRanges), ("unicode/utf8.first", Rows.laid_unicode_utf8_first)] W) : TbI W := by
 rw [MakeChecks.laidMetH_plain _ _ _ (by kernel_rfl)] at h
 have e : (Rows.laid_internal_strconv_uint64pow10 : DataW Unit) = Lib.tabData .u64 Lib.pow10Tab := by kernel_rfl
 replace h := h.tail.tail
 rw [e] at h
 exact Lib.tabIs_of_head (g := 0) (t := 250) (e := 30) (n := 20) (by kernel_rfl) (by kernel_rfl) Tryz.underlying250 Tryz.underlying30 (by kernel_rfl) (by kernel_rfl) h
