/- Contracts of the library, laid at this translation by the shelf, in plain words. -/
import Derived.Shelf.Small.Bits
import Derived.Shelf.Utf8.RuneCount
import Derived.Shelf.Strconv.Itoa0
import Derived.Shelf.Strings.Search1
import Derived.Shelf.Strings.Search2
import Derived.Shelf.Strings.Search3
import Derived.Shelf.Strings.Count
import Derived.Shelf.LaysM
import Derived.Shelf.Strings.Shaped
import Derived.Shelf.Strings.Prefix
import Derived.Shelf.Strings.Split
import Derived.Shelf.Strings.SplitShaped
import Derived.Shelf.Unicode.Decode
import Derived.Shelf.Strings.RuneCount
import Derived.Shelf.Strings.Explode
import Derived.Shelf.Unicode.DecodeSlow
import Derived.Shelf.Unicode.DecodeAny
import Derived.Ground.Names2Prog
import Derived.Shelf.Slices.Clone
import Derived.Ground.SlgnProg
import Derived.Shelf.SlicesE.Clone
import Derived.Ground.SlsfProg
import Derived.Shelf.SlSortCmp.InsertionK
import Derived.Shelf.SlSortCmp.SiftDownK
import Derived.Shelf.SlSortCmp.HeapSortK
import Derived.Shelf.SlSortCmp.MedianK
import Derived.Shelf.SlSortCmp.PivotK
import Derived.Shelf.SlSortCmp.ReverseRangeK
import Derived.Shelf.SlSortCmp.PartialInsertionK
import Derived.Shelf.SlSortCmp.PartitionEqualK
import Derived.Shelf.SlSortCmp.PartitionK
import Derived.Shelf.SlSortCmp.PdqK
import Derived.Shelf.SlSortCmp.WholeK
import Derived.Shelf.SlSortCmp.NoneTotal
import Derived.Test.YtjnjalalkbamkaaGreatDoorProg
import Derived.Ground.Names7Prog
import Derived.Shelf.Spec.TrailingZeros
import Derived.Ground.NamesProg
namespace Go.Proofs
open Go.Shelf

def Tryz.sortI0_ren : Go.Shelf.Ren := ⟨fun | 6 => 121 | 15 => 119 | 14 => 159 | 28 => 156 | 29 => 157 | 20 => 178 | 21 => 179 | 22 => 180 | 23 => 181 | 24 => 182 | 25 => 183 | 26 => 184 | 27 => 185 | 46 => 197 | 47 => 172 | 48 => 173 | 49 => 198 | 50 => 199 | 57 => 205 | n => n, fun | 22 => 48 | 24 => 47 | 25 => 204 | 3 => 3 | 39 => 164 | 0 => 0 | 53 => 243 | 55 => 67 | 4 => 4 | 46 => 237 | 45 => 236 | 50 => 115 | 5 => 5 | 9 => 9 | 66 => 257 | 70 => 261 | 76 => 274 | 77 => 275 | n => n, fun | n => n⟩
theorem Tryz.sortI0 : Go.Proofs.SlLaysF0.n6 Tryz.prog Tryz.sortI0_ren := {
 mixed := by kernel_rfl
 f6 := ⟨Tryz.f121.name, by decide, Tryz.func121.trans (congrArg some (by kernel_rfl))⟩
 f14 := ⟨Tryz.f159.name, by decide, Tryz.func159.trans (congrArg some (by kernel_rfl))⟩
 f15 := Tryz.func119.trans (congrArg some (by kernel_rfl))
 f20 := ⟨Tryz.f178.name, by decide, Tryz.func178.trans (congrArg some (by kernel_rfl))⟩
 f21 := ⟨Tryz.f179.name, by decide, Tryz.func179.trans (congrArg some (by kernel_rfl))⟩
 f22 := ⟨Tryz.f180.name, by decide, Tryz.func180.trans (congrArg some (by kernel_rfl))⟩
 f23 := ⟨Tryz.f181.name, by decide, Tryz.func181.trans (congrArg some (by kernel_rfl))⟩
 f24 := ⟨Tryz.f182.name, by decide, Tryz.func182.trans (congrArg some (by kernel_rfl))⟩
 f25 := ⟨Tryz.f183.name, by decide, Tryz.func183.trans (congrArg some (by kernel_rfl))⟩
 f26 := ⟨Tryz.f184.name, by decide, Tryz.func184.trans (congrArg some (by kernel_rfl))⟩
 f27 := ⟨Tryz.f185.name, by decide, Tryz.func185.trans (congrArg some (by kernel_rfl))⟩
 f28 := Tryz.func156.trans (congrArg some (by kernel_rfl))
 f29 := Tryz.func157.trans (congrArg some (by kernel_rfl))
 f46 := ⟨Tryz.f197.name, by decide, Tryz.func197.trans (congrArg some (by kernel_rfl))⟩
 f47 := Tryz.func172.trans (congrArg some (by kernel_rfl))
 f48 := Tryz.func173.trans (congrArg some (by kernel_rfl))
 f49 := ⟨Tryz.f198.name, by decide, Tryz.func198.trans (congrArg some (by kernel_rfl))⟩
 f50 := ⟨Tryz.f199.name, by decide, Tryz.func199.trans (congrArg some (by kernel_rfl))⟩
 f57 := ⟨Tryz.f205.name, by decide, Tryz.func205.trans (congrArg some (by kernel_rfl))⟩
 t0 := Tryz.underlying0
 a0 := Tryz.isAgg0
 z0 := Tryz.sizeOf0
 v0 := Tryz.zeroValue0
 t3 := Tryz.underlying3
 a3 := Tryz.isAgg3
 z3 := Tryz.sizeOf3
 v3 := Tryz.zeroValue3
 t4 := Tryz.underlying4
 a4 := Tryz.isAgg4
 z4 := Tryz.sizeOf4
 v4 := Tryz.zeroValue4
 t5 := Tryz.underlying5
 a5 := Tryz.isAgg5
 z5 := Tryz.sizeOf5
 v5 := Tryz.zeroValue5
 t9 := Tryz.underlying9
 a9 := Tryz.isAgg9
 z9 := Tryz.sizeOf9
 v9 := Tryz.zeroValue9
 t22 := Tryz.underlying48
 a22 := Tryz.isAgg48
 z22 := Tryz.sizeOf48
 v22 := Tryz.zeroValue48
 t25 := Tryz.underlying204
 a25 := Tryz.isAgg204
 z25 := Tryz.sizeOf204
 v25 := Tryz.zeroValue204
 t39 := Tryz.underlying164
 a39 := Tryz.isAgg164
 z39 := Tryz.sizeOf164
 v39 := Tryz.zeroValue164
 t45 := Tryz.underlying236
 a45 := Tryz.isAgg236
 z45 := Tryz.sizeOf236
 v45 := Tryz.zeroValue236
 t46 := Tryz.underlying237
 a46 := Tryz.isAgg237
 z46 := Tryz.sizeOf237
 v46 := Tryz.zeroValue237
 t50 := Tryz.underlying115
 a50 := Tryz.isAgg115
 z50 := Tryz.sizeOf115
 v50 := Tryz.zeroValue115
 t53 := Tryz.underlying243
 a53 := Tryz.isAgg243
 z53 := Tryz.sizeOf243
 v53 := Tryz.zeroValue243
 t55 := Tryz.underlying67
 a55 := Tryz.isAgg67
 z55 := Tryz.sizeOf67
 v55 := Tryz.zeroValue67
 t66 := Tryz.underlying257
 a66 := Tryz.isAgg257
 z66 := Tryz.sizeOf257
 v66 := Tryz.zeroValue257
 t70 := Tryz.underlying261
 a70 := Tryz.isAgg261
 z70 := Tryz.sizeOf261
 v70 := Tryz.zeroValue261
 t76 := Tryz.underlying274
 a76 := Tryz.isAgg274
 z76 := Tryz.sizeOf274
 v76 := Tryz.zeroValue274
 t77 := Tryz.underlying275
 a77 := Tryz.isAgg275
 z77 := Tryz.sizeOf275
 v77 := Tryz.zeroValue275 }
def Tryz.tz64l_ren : Go.Shelf.Ren := ⟨fun | 29 => 89 | n => n, fun | 22 => 67 | 3 => 3 | 4 => 4 | 25 => 164 | 54 => 198 | 0 => 0 | 5 => 5 | n => n, fun | 1 => 0 | n => n⟩
theorem Tryz.tz64l : Go.Proofs.Lays7.n29 Tryz.prog Tryz.tz64l_ren := {
 mixed := by kernel_rfl
 f29 := Tryz.func89.trans (congrArg some (by kernel_rfl))
 t0 := Tryz.underlying0
 a0 := Tryz.isAgg0
 z0 := Tryz.sizeOf0
 v0 := Tryz.zeroValue0
 i0 := by kernel_rfl
 t3 := Tryz.underlying3
 a3 := Tryz.isAgg3
 z3 := Tryz.sizeOf3
 v3 := Tryz.zeroValue3
 i3 := by kernel_rfl
 t4 := Tryz.underlying4
 a4 := Tryz.isAgg4
 z4 := Tryz.sizeOf4
 v4 := Tryz.zeroValue4
 i4 := by kernel_rfl
 t5 := Tryz.underlying5
 a5 := Tryz.isAgg5
 z5 := Tryz.sizeOf5
 v5 := Tryz.zeroValue5
 i5 := by kernel_rfl
 t22 := Tryz.underlying67
 a22 := Tryz.isAgg67
 z22 := Tryz.sizeOf67
 v22 := Tryz.zeroValue67
 i22 := by kernel_rfl
 t25 := Tryz.underlying164
 a25 := Tryz.isAgg164
 z25 := Tryz.sizeOf164
 v25 := Tryz.zeroValue164
 i25 := by kernel_rfl
 t54 := Tryz.underlying198
 a54 := Tryz.isAgg198
 z54 := Tryz.sizeOf198
 g1 := by kernel_rfl }
def Tryz.sortCo_ren : Go.Shelf.Ren := ⟨fun | 6 => 93 | 15 => 119 | 14 => 118 | 28 => 156 | 29 => 157 | 20 => 148 | 21 => 149 | 22 => 150 | 23 => 151 | 24 => 152 | 25 => 153 | 26 => 154 | 27 => 155 | 46 => 171 | 47 => 172 | 48 => 173 | 49 => 174 | 50 => 175 | 57 => 194 | n => n, fun | 22 => 60 | 24 => 121 | 25 => 159 | 3 => 3 | 39 => 164 | 0 => 0 | 53 => 243 | 55 => 67 | 4 => 4 | 46 => 237 | 45 => 236 | 50 => 115 | 5 => 5 | 9 => 9 | 66 => 257 | 70 => 261 | 76 => 274 | 77 => 275 | n => n, fun | n => n⟩
theorem Tryz.sortCo : Go.Proofs.SlLaysF0.n6 Tryz.prog Tryz.sortCo_ren := {
 mixed := by kernel_rfl
 f6 := ⟨Tryz.f93.name, by decide, Tryz.func93.trans (congrArg some (by kernel_rfl))⟩
 f14 := ⟨Tryz.f118.name, by decide, Tryz.func118.trans (congrArg some (by kernel_rfl))⟩
 f15 := Tryz.func119.trans (congrArg some (by kernel_rfl))
 f20 := ⟨Tryz.f148.name, by decide, Tryz.func148.trans (congrArg some (by kernel_rfl))⟩
 f21 := ⟨Tryz.f149.name, by decide, Tryz.func149.trans (congrArg some (by kernel_rfl))⟩
 f22 := ⟨Tryz.f150.name, by decide, Tryz.func150.trans (congrArg some (by kernel_rfl))⟩
 f23 := ⟨Tryz.f151.name, by decide, Tryz.func151.trans (congrArg some (by kernel_rfl))⟩
 f24 := ⟨Tryz.f152.name, by decide, Tryz.func152.trans (congrArg some (by kernel_rfl))⟩
 f25 := ⟨Tryz.f153.name, by decide, Tryz.func153.trans (congrArg some (by kernel_rfl))⟩
 f26 := ⟨Tryz.f154.name, by decide, Tryz.func154.trans (congrArg some (by kernel_rfl))⟩
 f27 := ⟨Tryz.f155.name, by decide, Tryz.func155.trans (congrArg some (by kernel_rfl))⟩
 f28 := Tryz.func156.trans (congrArg some (by kernel_rfl))
 f29 := Tryz.func157.trans (congrArg some (by kernel_rfl))
 f46 := ⟨Tryz.f171.name, by decide, Tryz.func171.trans (congrArg some (by kernel_rfl))⟩
 f47 := Tryz.func172.trans (congrArg some (by kernel_rfl))
 f48 := Tryz.func173.trans (congrArg some (by kernel_rfl))
 f49 := ⟨Tryz.f174.name, by decide, Tryz.func174.trans (congrArg some (by kernel_rfl))⟩
 f50 := ⟨Tryz.f175.name, by decide, Tryz.func175.trans (congrArg some (by kernel_rfl))⟩
 f57 := ⟨Tryz.f194.name, by decide, Tryz.func194.trans (congrArg some (by kernel_rfl))⟩
 t0 := Tryz.underlying0
 a0 := Tryz.isAgg0
 z0 := Tryz.sizeOf0
 v0 := Tryz.zeroValue0
 t3 := Tryz.underlying3
 a3 := Tryz.isAgg3
 z3 := Tryz.sizeOf3
 v3 := Tryz.zeroValue3
 t4 := Tryz.underlying4
 a4 := Tryz.isAgg4
 z4 := Tryz.sizeOf4
 v4 := Tryz.zeroValue4
 t5 := Tryz.underlying5
 a5 := Tryz.isAgg5
 z5 := Tryz.sizeOf5
 v5 := Tryz.zeroValue5
 t9 := Tryz.underlying9
 a9 := Tryz.isAgg9
 z9 := Tryz.sizeOf9
 v9 := Tryz.zeroValue9
 t22 := Tryz.underlying60
 a22 := Tryz.isAgg60
 z22 := Tryz.sizeOf60
 v22 := Tryz.zeroValue60
 t25 := Tryz.underlying159
 a25 := Tryz.isAgg159
 z25 := Tryz.sizeOf159
 v25 := Tryz.zeroValue159
 t39 := Tryz.underlying164
 a39 := Tryz.isAgg164
 z39 := Tryz.sizeOf164
 v39 := Tryz.zeroValue164
 t45 := Tryz.underlying236
 a45 := Tryz.isAgg236
 z45 := Tryz.sizeOf236
 v45 := Tryz.zeroValue236
 t46 := Tryz.underlying237
 a46 := Tryz.isAgg237
 z46 := Tryz.sizeOf237
 v46 := Tryz.zeroValue237
 t50 := Tryz.underlying115
 a50 := Tryz.isAgg115
 z50 := Tryz.sizeOf115
 v50 := Tryz.zeroValue115
 t53 := Tryz.underlying243
 a53 := Tryz.isAgg243
 z53 := Tryz.sizeOf243
 v53 := Tryz.zeroValue243
 t55 := Tryz.underlying67
 a55 := Tryz.isAgg67
 z55 := Tryz.sizeOf67
 v55 := Tryz.zeroValue67
 t66 := Tryz.underlying257
 a66 := Tryz.isAgg257
 z66 := Tryz.sizeOf257
 v66 := Tryz.zeroValue257
 t70 := Tryz.underlying261
 a70 := Tryz.isAgg261
 z70 := Tryz.sizeOf261
 v70 := Tryz.zeroValue261
 t76 := Tryz.underlying274
 a76 := Tryz.isAgg274
 z76 := Tryz.sizeOf274
 v76 := Tryz.zeroValue274
 t77 := Tryz.underlying275
 a77 := Tryz.isAgg275
 z77 := Tryz.sizeOf275
 v77 := Tryz.zeroValue275 }

end Go.Proofs
