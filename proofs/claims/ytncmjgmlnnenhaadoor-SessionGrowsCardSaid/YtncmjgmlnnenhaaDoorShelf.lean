/- Contracts of the library, laid at this translation by the shelf, in plain words. -/
import Derived.Shelf.Small.Bits
import Derived.Shelf.Strconv.Itoa0
import Derived.Ground.SlgnProg
import Derived.Shelf.SlicesE.Clone
import Derived.Ground.SlsfProg
import Derived.Shelf.SlSortCmp.InsertionK
import Derived.Shelf.SlSortCmp.SiftDownK
import Derived.Shelf.SlSortCmp.HeapSortK
import Derived.Shelf.SlSortCmp.MedianK
import Derived.Shelf.SlSortCmp.PivotK
import Derived.Shelf.SlSortCmp.ReverseRangeK
import Derived.Shelf.SlSortCmp.PartialInsertionK
import Derived.Shelf.SlSortCmp.PartitionEqualK
import Derived.Shelf.SlSortCmp.PartitionK
import Derived.Shelf.SlSortCmp.PdqK
import Derived.Shelf.SlSortCmp.WholeK
import Derived.Shelf.SlSortCmp.NoneTotal
import Derived.Test.YtncmjgmlnnenhaaDoorProg
import Derived.Ground.Names7Prog
import Derived.Shelf.Spec.TrailingZeros
import Derived.Ground.NamesProg
namespace Go.Proofs
open Go.Shelf

def Tryd.sortI0_ren : Go.Shelf.Ren := ⟨fun | 6 => 81 | 15 => 97 | 14 => 96 | 28 => 111 | 29 => 102 | 20 => 103 | 21 => 104 | 22 => 105 | 23 => 106 | 24 => 107 | 25 => 108 | 26 => 109 | 27 => 110 | 46 => 112 | 47 => 113 | 48 => 114 | 49 => 115 | 50 => 116 | 57 => 117 | n => n, fun | 22 => 39 | 24 => 88 | 25 => 130 | 3 => 3 | 39 => 119 | 0 => 0 | 53 => 154 | 55 => 34 | 4 => 4 | 46 => 148 | 45 => 147 | 50 => 82 | 5 => 5 | 9 => 9 | 66 => 155 | 70 => 159 | 76 => 161 | 77 => 162 | n => n, fun | n => n⟩
theorem Tryd.sortI0 : Go.Proofs.SlLaysF0.n6 Tryd.prog Tryd.sortI0_ren := {
  mixed := by kernel_rfl
  f6 := ⟨Tryd.f81.name, by decide, Tryd.func81.trans (congrArg some (by kernel_rfl))⟩
  f14 := ⟨Tryd.f96.name, by decide, Tryd.func96.trans (congrArg some (by kernel_rfl))⟩
  f15 := Tryd.func97.trans (congrArg some (by kernel_rfl))
  f20 := ⟨Tryd.f103.name, by decide, Tryd.func103.trans (congrArg some (by kernel_rfl))⟩
  f21 := ⟨Tryd.f104.name, by decide, Tryd.func104.trans (congrArg some (by kernel_rfl))⟩
  f22 := ⟨Tryd.f105.name, by decide, Tryd.func105.trans (congrArg some (by kernel_rfl))⟩
  f23 := ⟨Tryd.f106.name, by decide, Tryd.func106.trans (congrArg some (by kernel_rfl))⟩
  f24 := ⟨Tryd.f107.name, by decide, Tryd.func107.trans (congrArg some (by kernel_rfl))⟩
  f25 := ⟨Tryd.f108.name, by decide, Tryd.func108.trans (congrArg some (by kernel_rfl))⟩
  f26 := ⟨Tryd.f109.name, by decide, Tryd.func109.trans (congrArg some (by kernel_rfl))⟩
  f27 := ⟨Tryd.f110.name, by decide, Tryd.func110.trans (congrArg some (by kernel_rfl))⟩
  f28 := Tryd.func111.trans (congrArg some (by kernel_rfl))
  f29 := Tryd.func102.trans (congrArg some (by kernel_rfl))
  f46 := ⟨Tryd.f112.name, by decide, Tryd.func112.trans (congrArg some (by kernel_rfl))⟩
  f47 := Tryd.func113.trans (congrArg some (by kernel_rfl))
  f48 := Tryd.func114.trans (congrArg some (by kernel_rfl))
  f49 := ⟨Tryd.f115.name, by decide, Tryd.func115.trans (congrArg some (by kernel_rfl))⟩
  f50 := ⟨Tryd.f116.name, by decide, Tryd.func116.trans (congrArg some (by kernel_rfl))⟩
  f57 := ⟨Tryd.f117.name, by decide, Tryd.func117.trans (congrArg some (by kernel_rfl))⟩
  t0 := Tryd.underlying0
  a0 := Tryd.isAgg0
  z0 := Tryd.sizeOf0
  v0 := Tryd.zeroValue0
  t3 := Tryd.underlying3
  a3 := Tryd.isAgg3
  z3 := Tryd.sizeOf3
  v3 := Tryd.zeroValue3
  t4 := Tryd.underlying4
  a4 := Tryd.isAgg4
  z4 := Tryd.sizeOf4
  v4 := Tryd.zeroValue4
  t5 := Tryd.underlying5
  a5 := Tryd.isAgg5
  z5 := Tryd.sizeOf5
  v5 := Tryd.zeroValue5
  t9 := Tryd.underlying9
  a9 := Tryd.isAgg9
  z9 := Tryd.sizeOf9
  v9 := Tryd.zeroValue9
  t22 := Tryd.underlying39
  a22 := Tryd.isAgg39
  z22 := Tryd.sizeOf39
  v22 := Tryd.zeroValue39
  t25 := Tryd.underlying130
  a25 := Tryd.isAgg130
  z25 := Tryd.sizeOf130
  v25 := Tryd.zeroValue130
  t39 := Tryd.underlying119
  a39 := Tryd.isAgg119
  z39 := Tryd.sizeOf119
  v39 := Tryd.zeroValue119
  t45 := Tryd.underlying147
  a45 := Tryd.isAgg147
  z45 := Tryd.sizeOf147
  v45 := Tryd.zeroValue147
  t46 := Tryd.underlying148
  a46 := Tryd.isAgg148
  z46 := Tryd.sizeOf148
  v46 := Tryd.zeroValue148
  t50 := Tryd.underlying82
  a50 := Tryd.isAgg82
  z50 := Tryd.sizeOf82
  v50 := Tryd.zeroValue82
  t53 := Tryd.underlying154
  a53 := Tryd.isAgg154
  z53 := Tryd.sizeOf154
  v53 := Tryd.zeroValue154
  t55 := Tryd.underlying34
  a55 := Tryd.isAgg34
  z55 := Tryd.sizeOf34
  v55 := Tryd.zeroValue34
  t66 := Tryd.underlying155
  a66 := Tryd.isAgg155
  z66 := Tryd.sizeOf155
  v66 := Tryd.zeroValue155
  t70 := Tryd.underlying159
  a70 := Tryd.isAgg159
  z70 := Tryd.sizeOf159
  v70 := Tryd.zeroValue159
  t76 := Tryd.underlying161
  a76 := Tryd.isAgg161
  z76 := Tryd.sizeOf161
  v76 := Tryd.zeroValue161
  t77 := Tryd.underlying162
  a77 := Tryd.isAgg162
  z77 := Tryd.sizeOf162
  v77 := Tryd.zeroValue162 }
def Tryd.tz64l_ren : Go.Shelf.Ren := ⟨fun | 29 => 74 | n => n, fun | 22 => 34 | 3 => 3 | 4 => 4 | 25 => 119 | 54 => 138 | 0 => 0 | 5 => 5 | n => n, fun | 1 => 0 | n => n⟩
theorem Tryd.tz64l : Go.Proofs.Lays7.n29 Tryd.prog Tryd.tz64l_ren := {
  mixed := by kernel_rfl
  f29 := Tryd.func74.trans (congrArg some (by kernel_rfl))
  t0 := Tryd.underlying0
  a0 := Tryd.isAgg0
  z0 := Tryd.sizeOf0
  v0 := Tryd.zeroValue0
  i0 := by kernel_rfl
  t3 := Tryd.underlying3
  a3 := Tryd.isAgg3
  z3 := Tryd.sizeOf3
  v3 := Tryd.zeroValue3
  i3 := by kernel_rfl
  t4 := Tryd.underlying4
  a4 := Tryd.isAgg4
  z4 := Tryd.sizeOf4
  v4 := Tryd.zeroValue4
  i4 := by kernel_rfl
  t5 := Tryd.underlying5
  a5 := Tryd.isAgg5
  z5 := Tryd.sizeOf5
  v5 := Tryd.zeroValue5
  i5 := by kernel_rfl
  t22 := Tryd.underlying34
  a22 := Tryd.isAgg34
  z22 := Tryd.sizeOf34
  v22 := Tryd.zeroValue34
  i22 := by kernel_rfl
  t25 := Tryd.underlying119
  a25 := Tryd.isAgg119
  z25 := Tryd.sizeOf119
  v25 := Tryd.zeroValue119
  i25 := by kernel_rfl
  t54 := Tryd.underlying138
  a54 := Tryd.isAgg138
  z54 := Tryd.sizeOf138
  g1 := by kernel_rfl }
end Go.Proofs
