/- Contracts of the library, laid at this translation by the shelf, in plain words. -/
import Derived.Shelf.Small.Bits
import Derived.Shelf.Small.Wraps
import Derived.Shelf.Utf8.RuneCount
import Derived.Shelf.Strconv.Itoa0
import Derived.Shelf.Strings.Search1
import Derived.Shelf.Strings.Search2
import Derived.Shelf.Strings.Search3
import Derived.Shelf.Strings.Count
import Derived.Shelf.LaysM
import Derived.Shelf.Strings.Shaped
import Derived.Shelf.Strings.Prefix
import Derived.Shelf.Strings.Split
import Derived.Shelf.Strings.SplitShaped
import Derived.Shelf.Unicode.Decode
import Derived.Shelf.Strings.RuneCount
import Derived.Shelf.Strings.Explode
import Derived.Shelf.Unicode.DecodeSlow
import Derived.Shelf.Unicode.DecodeAny
import Derived.Ground.Names2Prog
import Derived.Shelf.Slices.Clone
import Derived.Shelf.Slices.SearchI
import Derived.Ground.SlgnProg
import Derived.Shelf.SlicesE.Clone
import Derived.Ground.SlsfProg
import Derived.Shelf.SlSortCmp.InsertionK
import Derived.Shelf.SlSortCmp.SiftDownK
import Derived.Shelf.SlSortCmp.HeapSortK
import Derived.Shelf.SlSortCmp.MedianK
import Derived.Shelf.SlSortCmp.PivotK
import Derived.Shelf.SlSortCmp.ReverseRangeK
import Derived.Shelf.SlSortCmp.PartialInsertionK
import Derived.Shelf.SlSortCmp.PartitionEqualK
import Derived.Shelf.SlSortCmp.PartitionK
import Derived.Shelf.SlSortCmp.PdqK
import Derived.Shelf.SlSortCmp.WholeK
import Derived.Shelf.SlSortCmp.NoneTotal
import Derived.Test.YtgmpgfokblehdaaGreatDoorProg
import Derived.Ground.Names7Prog
import Derived.Shelf.Spec.TrailingZeros
import Derived.Ground.NamesProg
namespace Go.Proofs
open Go.Shelf
def Tryz.sortP_ren : Go.Shelf.Ren := ⟨fun | 6 => 177 | 15 => 199 | 14 => 211 | 28 => 227 | 29 => 228 | 20 => 233 | 21 => 234 | 22 => 235 | 23 => 236 | 24 => 237 | 25 => 238 | 26 => 239 | 27 => 240 | 46 => 252 | 47 => 245 | 48 => 246 | 49 => 253 | 50 => 254 | 57 => 261 | n => n, fun | 22 => 158 | 24 => 50 | 25 => 189 | 3 => 3 | 39 => 187 | 0 => 0 | 53 => 295 | 55 => 126 | 4 => 4 | 46 => 289 | 45 => 288 | 50 => 109 | 5 => 5 | 9 => 9 | 66 => 306 | 70 => 310 | 76 => 319 | 77 => 312 | n => n, fun | n => n⟩
theorem Tryz.sortP : Go.Proofs.SlLaysF0.n6 Tryz.prog Tryz.sortP_ren := {
 mixed := by kernel_rfl
 f6 := ⟨Tryz.f177.name, by decide, Tryz.func177.trans (congrArg some (by kernel_rfl))⟩
 f14 := ⟨Tryz.f211.name, by decide, Tryz.func211.trans (congrArg some (by kernel_rfl))⟩
 f15 := Tryz.func199.trans (congrArg some (by kernel_rfl))
 f20 := ⟨Tryz.f233.name, by decide, Tryz.func233.trans (congrArg some (by kernel_rfl))⟩
 f21 := ⟨Tryz.f234.name, by decide, Tryz.func234.trans (congrArg some (by kernel_rfl))⟩
 f22 := ⟨Tryz.f235.name, by decide, Tryz.func235.trans (congrArg some (by kernel_rfl))⟩
 f23 := ⟨Tryz.f236.name, by decide, Tryz.func236.trans (congrArg some (by kernel_rfl))⟩
 f24 := ⟨Tryz.f237.name, by decide, Tryz.func237.trans (congrArg some (by kernel_rfl))⟩
 f25 := ⟨Tryz.f238.name, by decide, Tryz.func238.trans (congrArg some (by kernel_rfl))⟩
 f26 := ⟨Tryz.f239.name, by decide, Tryz.func239.trans (congrArg some (by kernel_rfl))⟩
 f27 := ⟨Tryz.f240.name, by decide, Tryz.func240.trans (congrArg some (by kernel_rfl))⟩
 f28 := Tryz.func227.trans (congrArg some (by kernel_rfl))
 f29 := Tryz.func228.trans (congrArg some (by kernel_rfl))
 f46 := ⟨Tryz.f252.name, by decide, Tryz.func252.trans (congrArg some (by kernel_rfl))⟩
 f47 := Tryz.func245.trans (congrArg some (by kernel_rfl))
 f48 := Tryz.func246.trans (congrArg some (by kernel_rfl))
 f49 := ⟨Tryz.f253.name, by decide, Tryz.func253.trans (congrArg some (by kernel_rfl))⟩
 f50 := ⟨Tryz.f254.name, by decide, Tryz.func254.trans (congrArg some (by kernel_rfl))⟩
 f57 := ⟨Tryz.f261.name, by decide, Tryz.func261.trans (congrArg some (by kernel_rfl))⟩
 t0 := Tryz.underlying0
 a0 := Tryz.isAgg0
 z0 := Tryz.sizeOf0
 v0 := Tryz.zeroValue0
 t3 := Tryz.underlying3
 a3 := Tryz.isAgg3
 z3 := Tryz.sizeOf3
 v3 := Tryz.zeroValue3
 t4 := Tryz.underlying4
 a4 := Tryz.isAgg4
 z4 := Tryz.sizeOf4
 v4 := Tryz.zeroValue4
 t5 := Tryz.underlying5
 a5 := Tryz.isAgg5
 z5 := Tryz.sizeOf5
 v5 := Tryz.zeroValue5
 t9 := Tryz.underlying9
 a9 := Tryz.isAgg9
 z9 := Tryz.sizeOf9
 v9 := Tryz.zeroValue9
 t22 := Tryz.underlying158
 a22 := Tryz.isAgg158
 z22 := Tryz.sizeOf158
 v22 := Tryz.zeroValue158
 t25 := Tryz.underlying189
 a25 := Tryz.isAgg189
 z25 := Tryz.sizeOf189
 v25 := Tryz.zeroValue189
 t39 := Tryz.underlying187
 a39 := Tryz.isAgg187
 z39 := Tryz.sizeOf187
 v39 := Tryz.zeroValue187
 t45 := Tryz.underlying288
 a45 := Tryz.isAgg288
 z45 := Tryz.sizeOf288
 v45 := Tryz.zeroValue288
 t46 := Tryz.underlying289
 a46 := Tryz.isAgg289
 z46 := Tryz.sizeOf289
 v46 := Tryz.zeroValue289
 t50 := Tryz.underlying109
 a50 := Tryz.isAgg109
 z50 := Tryz.sizeOf109
 v50 := Tryz.zeroValue109
 t53 := Tryz.underlying295
 a53 := Tryz.isAgg295
 z53 := Tryz.sizeOf295
 v53 := Tryz.zeroValue295
 t55 := Tryz.underlying126
 a55 := Tryz.isAgg126
 z55 := Tryz.sizeOf126
 v55 := Tryz.zeroValue126
 t66 := Tryz.underlying306
 a66 := Tryz.isAgg306
 z66 := Tryz.sizeOf306
 v66 := Tryz.zeroValue306
 t70 := Tryz.underlying310
 a70 := Tryz.isAgg310
 z70 := Tryz.sizeOf310
 v70 := Tryz.zeroValue310
 t76 := Tryz.underlying319
 a76 := Tryz.isAgg319
 z76 := Tryz.sizeOf319
 v76 := Tryz.zeroValue319
 t77 := Tryz.underlying312
 a77 := Tryz.isAgg312
 z77 := Tryz.sizeOf312
 v77 := Tryz.zeroValue312 }
def Tryz.sortI0_ren : Go.Shelf.Ren := ⟨fun | 6 => 145 | 15 => 199 | 14 => 198 | 28 => 227 | 29 => 228 | 20 => 219 | 21 => 220 | 22 => 221 | 23 => 222 | 24 => 223 | 25 => 224 | 26 => 225 | 27 => 226 | 46 => 244 | 47 => 245 | 48 => 246 | 49 => 247 | 50 => 248 | 57 => 259 | n => n, fun | 22 => 207 | 24 => 208 | 25 => 239 | 3 => 3 | 39 => 187 | 0 => 0 | 53 => 295 | 55 => 126 | 4 => 4 | 46 => 289 | 45 => 288 | 50 => 109 | 5 => 5 | 9 => 9 | 66 => 306 | 70 => 310 | 76 => 319 | 77 => 312 | n => n, fun | n => n⟩
theorem Tryz.sortI0 : Go.Proofs.SlLaysF0.n6 Tryz.prog Tryz.sortI0_ren := {
 mixed := by kernel_rfl
 f6 := ⟨Tryz.f145.name, by decide, Tryz.func145.trans (congrArg some (by kernel_rfl))⟩
 f14 := ⟨Tryz.f198.name, by decide, Tryz.func198.trans (congrArg some (by kernel_rfl))⟩
 f15 := Tryz.func199.trans (congrArg some (by kernel_rfl))
 f20 := ⟨Tryz.f219.name, by decide, Tryz.func219.trans (congrArg some (by kernel_rfl))⟩
 f21 := ⟨Tryz.f220.name, by decide, Tryz.func220.trans (congrArg some (by kernel_rfl))⟩
 f22 := ⟨Tryz.f221.name, by decide, Tryz.func221.trans (congrArg some (by kernel_rfl))⟩
 f23 := ⟨Tryz.f222.name, by decide, Tryz.func222.trans (congrArg some (by kernel_rfl))⟩
 f24 := ⟨Tryz.f223.name, by decide, Tryz.func223.trans (congrArg some (by kernel_rfl))⟩
 f25 := ⟨Tryz.f224.name, by decide, Tryz.func224.trans (congrArg some (by kernel_rfl))⟩
 f26 := ⟨Tryz.f225.name, by decide, Tryz.func225.trans (congrArg some (by kernel_rfl))⟩
 f27 := ⟨Tryz.f226.name, by decide, Tryz.func226.trans (congrArg some (by kernel_rfl))⟩
 f28 := Tryz.func227.trans (congrArg some (by kernel_rfl))
 f29 := Tryz.func228.trans (congrArg some (by kernel_rfl))
 f46 := ⟨Tryz.f244.name, by decide, Tryz.func244.trans (congrArg some (by kernel_rfl))⟩
 f47 := Tryz.func245.trans (congrArg some (by kernel_rfl))
 f48 := Tryz.func246.trans (congrArg some (by kernel_rfl))
 f49 := ⟨Tryz.f247.name, by decide, Tryz.func247.trans (congrArg some (by kernel_rfl))⟩
 f50 := ⟨Tryz.f248.name, by decide, Tryz.func248.trans (congrArg some (by kernel_rfl))⟩
 f57 := ⟨Tryz.f259.name, by decide, Tryz.func259.trans (congrArg some (by kernel_rfl))⟩
 t0 := Tryz.underlying0
 a0 := Tryz.isAgg0
 z0 := Tryz.sizeOf0
 v0 := Tryz.zeroValue0
 t3 := Tryz.underlying3
 a3 := Tryz.isAgg3
 z3 := Tryz.sizeOf3
 v3 := Tryz.zeroValue3
 t4 := Tryz.underlying4
 a4 := Tryz.isAgg4
 z4 := Tryz.sizeOf4
 v4 := Tryz.zeroValue4
 t5 := Tryz.underlying5
 a5 := Tryz.isAgg5
 z5 := Tryz.sizeOf5
 v5 := Tryz.zeroValue5
 t9 := Tryz.underlying9
 a9 := Tryz.isAgg9
 z9 := Tryz.sizeOf9
 v9 := Tryz.zeroValue9
 t22 := Tryz.underlying207
 a22 := Tryz.isAgg207
 z22 := Tryz.sizeOf207
 v22 := Tryz.zeroValue207
 t25 := Tryz.underlying239
 a25 := Tryz.isAgg239
 z25 := Tryz.sizeOf239
 v25 := Tryz.zeroValue239
 t39 := Tryz.underlying187
 a39 := Tryz.isAgg187
 z39 := Tryz.sizeOf187
 v39 := Tryz.zeroValue187
 t45 := Tryz.underlying288
 a45 := Tryz.isAgg288
 z45 := Tryz.sizeOf288
 v45 := Tryz.zeroValue288
 t46 := Tryz.underlying289
 a46 := Tryz.isAgg289
 z46 := Tryz.sizeOf289
 v46 := Tryz.zeroValue289
 t50 := Tryz.underlying109
 a50 := Tryz.isAgg109
 z50 := Tryz.sizeOf109
 v50 := Tryz.zeroValue109
 t53 := Tryz.underlying295
 a53 := Tryz.isAgg295
 z53 := Tryz.sizeOf295
 v53 := Tryz.zeroValue295
 t55 := Tryz.underlying126
 a55 := Tryz.isAgg126
 z55 := Tryz.sizeOf126
 v55 := Tryz.zeroValue126
 t66 := Tryz.underlying306
 a66 := Tryz.isAgg306
 z66 := Tryz.sizeOf306
 v66 := Tryz.zeroValue306
 t70 := Tryz.underlying310
 a70 := Tryz.isAgg310
 z70 := Tryz.sizeOf310
 v70 := Tryz.zeroValue310
 t76 := Tryz.underlying319
 a76 := Tryz.isAgg319
 z76 := Tryz.sizeOf319
 v76 := Tryz.zeroValue319
 t77 := Tryz.underlying312
 a77 := Tryz.isAgg312
 z77 := Tryz.sizeOf312
 v77 := Tryz.zeroValue312 }
def Tryz.tz64l_ren : Go.Shelf.Ren := ⟨fun | 29 => 209 | n => n, fun | 22 => 126 | 3 => 3 | 4 => 4 | 25 => 187 | 54 => 299 | 0 => 0 | 5 => 5 | n => n, fun | 1 => 0 | n => n⟩
theorem Tryz.tz64l : Go.Proofs.Lays7.n29 Tryz.prog Tryz.tz64l_ren := {
 mixed := by kernel_rfl
 f29 := Tryz.func209.trans (congrArg some (by kernel_rfl))
 t0 := Tryz.underlying0
 a0 := Tryz.isAgg0
 z0 := Tryz.sizeOf0
 v0 := Tryz.zeroValue0
 i0 := by kernel_rfl
 t3 := Tryz.underlying3
 a3 := Tryz.isAgg3
 z3 := Tryz.sizeOf3
 v3 := Tryz.zeroValue3
 i3 := by kernel_rfl
 t4 := Tryz.underlying4
 a4 := Tryz.isAgg4
 z4 := Tryz.sizeOf4
 v4 := Tryz.zeroValue4
 i4 := by kernel_rfl
 t5 := Tryz.underlying5
 a5 := Tryz.isAgg5
 z5 := Tryz.sizeOf5
 v5 := Tryz.zeroValue5
 i5 := by kernel_rfl
 t22 := Tryz.underlying126
 a22 := Tryz.isAgg126
 z22 := Tryz.sizeOf126
 v22 := Tryz.zeroValue126
 i22 := by kernel_rfl
 t25 := Tryz.underlying187
 a25 := Tryz.isAgg187
 z25 := Tryz.sizeOf187
 v25 := Tryz.zeroValue187
 i25 := by kernel_rfl
 t54 := Tryz.underlying299
 a54 := Tryz.isAgg299
 z54 := Tryz.sizeOf299
 g1 := by kernel_rfl }
end Go.Proofs
