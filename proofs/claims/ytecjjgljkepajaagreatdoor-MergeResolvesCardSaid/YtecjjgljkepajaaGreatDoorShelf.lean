/- Contracts of the library, laid at this translation by the shelf, in plain words. -/
import Derived.Shelf.Small.Bits
import Derived.Shelf.Small.Wraps
import Derived.Shelf.Utf8.RuneCount
import Derived.Shelf.Strconv.Itoa0
import Derived.Shelf.Strings.Search1
import Derived.Shelf.Strings.Search2
import Derived.Shelf.Strings.Search3
import Derived.Shelf.Strings.Count
import Derived.Shelf.LaysM
import Derived.Shelf.Strings.Shaped
import Derived.Shelf.Strings.Prefix
import Derived.Shelf.Strings.Split
import Derived.Shelf.Strings.SplitShaped
import Derived.Shelf.Unicode.Decode
import Derived.Shelf.Strings.RuneCount
import Derived.Shelf.Strings.Explode
import Derived.Shelf.Unicode.DecodeSlow
import Derived.Shelf.Unicode.DecodeAny
import Derived.Shelf.Slices.Turned
import Derived.Ground.Names2Prog
import Derived.Shelf.Slices.SearchI
import Derived.Ground.SlgnProg
import Derived.Shelf.SlicesE.Clone
import Derived.Test.YtecjjgljkepajaaGreatDoorProg
import Derived.Shelf.SlSortCmp.NoneTotal
import Derived.Ground.SlsfProg
import Derived.Ground.NamesProg
namespace Go.Proofs
open Go.Shelf

def Tryz.sortCo_ren : Go.Shelf.Ren := ⟨fun | 6 => 44 | 15 => 69 | 14 => 68 | 28 => 105 | 29 => 106 | 20 => 97 | 21 => 98 | 22 => 99 | 23 => 100 | 24 => 101 | 25 => 102 | 26 => 103 | 27 => 104 | 46 => 131 | 47 => 132 | 48 => 133 | 49 => 134 | 50 => 135 | 57 => 150 | n => n, fun | 22 => 25 | 24 => 59 | 25 => 109 | 3 => 3 | 39 => 116 | 0 => 0 | 53 => 192 | 55 => 69 | 4 => 4 | 46 => 185 | 45 => 184 | 50 => 189 | 5 => 5 | 9 => 9 | 66 => 210 | 70 => 214 | 76 => 222 | 77 => 223 | n => n, fun | n => n⟩
theorem Tryz.sortCo : Go.Proofs.SlLaysF0.n6 Tryz.prog Tryz.sortCo_ren := {
 mixed := by kernel_rfl
 f6 := ⟨Tryz.f44.name, by decide, Tryz.func44.trans (congrArg some (by kernel_rfl))⟩
 f14 := ⟨Tryz.f68.name, by decide, Tryz.func68.trans (congrArg some (by kernel_rfl))⟩
 f15 := Tryz.func69.trans (congrArg some (by kernel_rfl))
 f20 := ⟨Tryz.f97.name, by decide, Tryz.func97.trans (congrArg some (by kernel_rfl))⟩
 f21 := ⟨Tryz.f98.name, by decide, Tryz.func98.trans (congrArg some (by kernel_rfl))⟩
 f22 := ⟨Tryz.f99.name, by decide, Tryz.func99.trans (congrArg some (by kernel_rfl))⟩
 f23 := ⟨Tryz.f100.name, by decide, Tryz.func100.trans (congrArg some (by kernel_rfl))⟩
 f24 := ⟨Tryz.f101.name, by decide, Tryz.func101.trans (congrArg some (by kernel_rfl))⟩
 f25 := ⟨Tryz.f102.name, by decide, Tryz.func102.trans (congrArg some (by kernel_rfl))⟩
 f26 := ⟨Tryz.f103.name, by decide, Tryz.func103.trans (congrArg some (by kernel_rfl))⟩
 f27 := ⟨Tryz.f104.name, by decide, Tryz.func104.trans (congrArg some (by kernel_rfl))⟩
 f28 := Tryz.func105.trans (congrArg some (by kernel_rfl))
 f29 := Tryz.func106.trans (congrArg some (by kernel_rfl))
 f46 := ⟨Tryz.f131.name, by decide, Tryz.func131.trans (congrArg some (by kernel_rfl))⟩
 f47 := Tryz.func132.trans (congrArg some (by kernel_rfl))
 f48 := Tryz.func133.trans (congrArg some (by kernel_rfl))
 f49 := ⟨Tryz.f134.name, by decide, Tryz.func134.trans (congrArg some (by kernel_rfl))⟩
 f50 := ⟨Tryz.f135.name, by decide, Tryz.func135.trans (congrArg some (by kernel_rfl))⟩
 f57 := ⟨Tryz.f150.name, by decide, Tryz.func150.trans (congrArg some (by kernel_rfl))⟩
 t0 := Tryz.underlying0
 a0 := Tryz.isAgg0
 z0 := Tryz.sizeOf0
 v0 := Tryz.zeroValue0
 t3 := Tryz.underlying3
 a3 := Tryz.isAgg3
 z3 := Tryz.sizeOf3
 v3 := Tryz.zeroValue3
 t4 := Tryz.underlying4
 a4 := Tryz.isAgg4
 z4 := Tryz.sizeOf4
 v4 := Tryz.zeroValue4
 t5 := Tryz.underlying5
 a5 := Tryz.isAgg5
 z5 := Tryz.sizeOf5
 v5 := Tryz.zeroValue5
 t9 := Tryz.underlying9
 a9 := Tryz.isAgg9
 z9 := Tryz.sizeOf9
 v9 := Tryz.zeroValue9
 t22 := Tryz.underlying25
 a22 := Tryz.isAgg25
 z22 := Tryz.sizeOf25
 v22 := Tryz.zeroValue25
 t25 := Tryz.underlying109
 a25 := Tryz.isAgg109
 z25 := Tryz.sizeOf109
 v25 := Tryz.zeroValue109
 t39 := Tryz.underlying116
 a39 := Tryz.isAgg116
 z39 := Tryz.sizeOf116
 v39 := Tryz.zeroValue116
 t45 := Tryz.underlying184
 a45 := Tryz.isAgg184
 z45 := Tryz.sizeOf184
 v45 := Tryz.zeroValue184
 t46 := Tryz.underlying185
 a46 := Tryz.isAgg185
 z46 := Tryz.sizeOf185
 v46 := Tryz.zeroValue185
 t50 := Tryz.underlying189
 a50 := Tryz.isAgg189
 z50 := Tryz.sizeOf189
 v50 := Tryz.zeroValue189
 t53 := Tryz.underlying192
 a53 := Tryz.isAgg192
 z53 := Tryz.sizeOf192
 v53 := Tryz.zeroValue192
 t55 := Tryz.underlying69
 a55 := Tryz.isAgg69
 z55 := Tryz.sizeOf69
 v55 := Tryz.zeroValue69
 t66 := Tryz.underlying210
 a66 := Tryz.isAgg210
 z66 := Tryz.sizeOf210
 v66 := Tryz.zeroValue210
 t70 := Tryz.underlying214
 a70 := Tryz.isAgg214
 z70 := Tryz.sizeOf214
 v70 := Tryz.zeroValue214
 t76 := Tryz.underlying222
 a76 := Tryz.isAgg222
 z76 := Tryz.sizeOf222
 v76 := Tryz.zeroValue222
 t77 := Tryz.underlying223
 a77 := Tryz.isAgg223
 z77 := Tryz.sizeOf223
 v77 := Tryz.zeroValue223 }
def Tryz.sortCk_ren : Go.Shelf.Ren := ⟨fun | 6 => 59 | 15 => 69 | 14 => 87 | 28 => 105 | 29 => 106 | 20 => 114 | 21 => 115 | 22 => 116 | 23 => 117 | 24 => 118 | 25 => 119 | 26 => 120 | 27 => 121 | 46 => 141 | 47 => 132 | 48 => 133 | 49 => 142 | 50 => 143 | 57 => 151 | n => n, fun | 22 => 83 | 24 => 57 | 25 => 146 | 3 => 3 | 39 => 116 | 0 => 0 | 53 => 192 | 55 => 69 | 4 => 4 | 46 => 185 | 45 => 184 | 50 => 189 | 5 => 5 | 9 => 9 | 66 => 210 | 70 => 214 | 76 => 222 | 77 => 223 | n => n, fun | n => n⟩
theorem Tryz.sortCk : Go.Proofs.SlLaysF0.n6 Tryz.prog Tryz.sortCk_ren := {
 mixed := by kernel_rfl
 f6 := ⟨Tryz.f59.name, by decide, Tryz.func59.trans (congrArg some (by kernel_rfl))⟩
 f14 := ⟨Tryz.f87.name, by decide, Tryz.func87.trans (congrArg some (by kernel_rfl))⟩
 f15 := Tryz.func69.trans (congrArg some (by kernel_rfl))
 f20 := ⟨Tryz.f114.name, by decide, Tryz.func114.trans (congrArg some (by kernel_rfl))⟩
 f21 := ⟨Tryz.f115.name, by decide, Tryz.func115.trans (congrArg some (by kernel_rfl))⟩
 f22 := ⟨Tryz.f116.name, by decide, Tryz.func116.trans (congrArg some (by kernel_rfl))⟩
 f23 := ⟨Tryz.f117.name, by decide, Tryz.func117.trans (congrArg some (by kernel_rfl))⟩
 f24 := ⟨Tryz.f118.name, by decide, Tryz.func118.trans (congrArg some (by kernel_rfl))⟩
 f25 := ⟨Tryz.f119.name, by decide, Tryz.func119.trans (congrArg some (by kernel_rfl))⟩
 f26 := ⟨Tryz.f120.name, by decide, Tryz.func120.trans (congrArg some (by kernel_rfl))⟩
 f27 := ⟨Tryz.f121.name, by decide, Tryz.func121.trans (congrArg some (by kernel_rfl))⟩
 f28 := Tryz.func105.trans (congrArg some (by kernel_rfl))
 f29 := Tryz.func106.trans (congrArg some (by kernel_rfl))
 f46 := ⟨Tryz.f141.name, by decide, Tryz.func141.trans (congrArg some (by kernel_rfl))⟩
 f47 := Tryz.func132.trans (congrArg some (by kernel_rfl))
 f48 := Tryz.func133.trans (congrArg some (by kernel_rfl))
 f49 := ⟨Tryz.f142.name, by decide, Tryz.func142.trans (congrArg some (by kernel_rfl))⟩
 f50 := ⟨Tryz.f143.name, by decide, Tryz.func143.trans (congrArg some (by kernel_rfl))⟩
 f57 := ⟨Tryz.f151.name, by decide, Tryz.func151.trans (congrArg some (by kernel_rfl))⟩
 t0 := Tryz.underlying0
 a0 := Tryz.isAgg0
 z0 := Tryz.sizeOf0
 v0 := Tryz.zeroValue0
 t3 := Tryz.underlying3
 a3 := Tryz.isAgg3
 z3 := Tryz.sizeOf3
 v3 := Tryz.zeroValue3
 t4 := Tryz.underlying4
 a4 := Tryz.isAgg4
 z4 := Tryz.sizeOf4
 v4 := Tryz.zeroValue4
 t5 := Tryz.underlying5
 a5 := Tryz.isAgg5
 z5 := Tryz.sizeOf5
 v5 := Tryz.zeroValue5
 t9 := Tryz.underlying9
 a9 := Tryz.isAgg9
 z9 := Tryz.sizeOf9
 v9 := Tryz.zeroValue9
 t22 := Tryz.underlying83
 a22 := Tryz.isAgg83
 z22 := Tryz.sizeOf83
 v22 := Tryz.zeroValue83
 t25 := Tryz.underlying146
 a25 := Tryz.isAgg146
 z25 := Tryz.sizeOf146
 v25 := Tryz.zeroValue146
 t39 := Tryz.underlying116
 a39 := Tryz.isAgg116
 z39 := Tryz.sizeOf116
 v39 := Tryz.zeroValue116
 t45 := Tryz.underlying184
 a45 := Tryz.isAgg184
 z45 := Tryz.sizeOf184
 v45 := Tryz.zeroValue184
 t46 := Tryz.underlying185
 a46 := Tryz.isAgg185
 z46 := Tryz.sizeOf185
 v46 := Tryz.zeroValue185
 t50 := Tryz.underlying189
 a50 := Tryz.isAgg189
 z50 := Tryz.sizeOf189
 v50 := Tryz.zeroValue189
 t53 := Tryz.underlying192
 a53 := Tryz.isAgg192
 z53 := Tryz.sizeOf192
 v53 := Tryz.zeroValue192
 t55 := Tryz.underlying69
 a55 := Tryz.isAgg69
 z55 := Tryz.sizeOf69
 v55 := Tryz.zeroValue69
 t66 := Tryz.underlying210
 a66 := Tryz.isAgg210
 z66 := Tryz.sizeOf210
 v66 := Tryz.zeroValue210
 t70 := Tryz.underlying214
 a70 := Tryz.isAgg214
 z70 := Tryz.sizeOf214
 v70 := Tryz.zeroValue214
 t76 := Tryz.underlying222
 a76 := Tryz.isAgg222
 z76 := Tryz.sizeOf222
 v76 := Tryz.zeroValue222
 t77 := Tryz.underlying223
 a77 := Tryz.isAgg223
 z77 := Tryz.sizeOf223
 v77 := Tryz.zeroValue223 }

end Go.Proofs
