/- Contracts of the library, laid at this translation by the shelf, in plain words. -/
import Derived.Shelf.Small.Bits
import Derived.Shelf.Utf8.RuneCount
import Derived.Shelf.Strconv.Itoa0
import Derived.Shelf.Strconv.Itoa1
import Derived.Shelf.LaysM
import Derived.Shelf.Strconv.Itoa2
import Derived.Shelf.Strconv.Itoa3
import Derived.Shelf.Strings.Search1
import Derived.Shelf.Strings.Search2
import Derived.Shelf.Strings.Search3
import Derived.Shelf.Strings.Count
import Derived.Shelf.Strings.Shaped
import Derived.Shelf.Strings.Prefix
import Derived.Shelf.Strings.Split
import Derived.Shelf.Strings.SplitShaped
import Derived.Shelf.Unicode.Decode
import Derived.Shelf.Strings.RuneCount
import Derived.Shelf.Strings.Explode
import Derived.Shelf.Unicode.DecodeSlow
import Derived.Shelf.Unicode.DecodeAny
import Derived.Shelf.Slices.Turned
import Derived.Test.YtdnkjdmfnmdpdaaGreatDoorProg
import Derived.Shelf.SlSortCmp.NoneTotal
import Derived.Ground.SlsfProg
import Derived.Ground.Names7Prog
import Derived.Shelf.Spec.TrailingZeros
import Derived.Ground.NamesProg
namespace Go.Proofs
open Go.Shelf
def Tryz.lays243_ren : Go.Shelf.Ren := ⟨fun | 243 => 125 | 246 => 160 | 283 => 178 | 284 => 179 | 285 => 180 | 286 => 181 | 129 => 147 | 317 => 186 | 318 => 187 | 319 => 188 | 320 => 189 | 337 => 193 | 338 => 194 | n => n, fun | 3 => 3 | 9 => 9 | 2 => 2 | 4 => 4 | 171 => 240 | 0 => 0 | 53 => 30 | 37 => 22 | 5 => 5 | 173 => 242 | 212 => 250 | 51 => 45 | 20 => 20 | 213 => 251 | 46 => 104 | 232 => 255 | 233 => 256 | n => n, fun | 17 => 0 | 18 => 1 | 19 => 2 | n => n⟩
theorem Tryz.lays243 : Go.Proofs.Lays.n243 Tryz.prog Tryz.lays243_ren := {
 mixed := by kernel_rfl
 f129 := Tryz.func147.trans (congrArg some (by kernel_rfl))
 f243 := Tryz.func125.trans (congrArg some (by kernel_rfl))
 f246 := Tryz.func160.trans (congrArg some (by kernel_rfl))
 f283 := Tryz.func178.trans (congrArg some (by kernel_rfl))
 f284 := Tryz.func179.trans (congrArg some (by kernel_rfl))
 f285 := Tryz.func180.trans (congrArg some (by kernel_rfl))
 f286 := Tryz.func181.trans (congrArg some (by kernel_rfl))
 f317 := Tryz.func186.trans (congrArg some (by kernel_rfl))
 f318 := Tryz.func187.trans (congrArg some (by kernel_rfl))
 f319 := Tryz.func188.trans (congrArg some (by kernel_rfl))
 f320 := Tryz.func189.trans (congrArg some (by kernel_rfl))
 f337 := Tryz.func193.trans (congrArg some (by kernel_rfl))
 f338 := Tryz.func194.trans (congrArg some (by kernel_rfl))
 t0 := Tryz.underlying0
 a0 := Tryz.isAgg0
 z0 := Tryz.sizeOf0
 v0 := Tryz.zeroValue0
 t2 := Tryz.underlying2
 a2 := Tryz.isAgg2
 z2 := Tryz.sizeOf2
 v2 := Tryz.zeroValue2
 t3 := Tryz.underlying3
 a3 := Tryz.isAgg3
 z3 := Tryz.sizeOf3
 v3 := Tryz.zeroValue3
 t4 := Tryz.underlying4
 a4 := Tryz.isAgg4
 z4 := Tryz.sizeOf4
 v4 := Tryz.zeroValue4
 t5 := Tryz.underlying5
 a5 := Tryz.isAgg5
 z5 := Tryz.sizeOf5
 v5 := Tryz.zeroValue5
 t9 := Tryz.underlying9
 a9 := Tryz.isAgg9
 z9 := Tryz.sizeOf9
 v9 := Tryz.zeroValue9
 t20 := Tryz.underlying20
 a20 := Tryz.isAgg20
 z20 := Tryz.sizeOf20
 v20 := Tryz.zeroValue20
 t37 := Tryz.underlying22
 a37 := Tryz.isAgg22
 z37 := Tryz.sizeOf22
 v37 := Tryz.zeroValue22
 t46 := Tryz.underlying104
 a46 := Tryz.isAgg104
 z46 := Tryz.sizeOf104
 v46 := Tryz.zeroValue104
 t51 := Tryz.underlying45
 a51 := Tryz.isAgg45
 z51 := Tryz.sizeOf45
 v51 := Tryz.zeroValue45
 t53 := Tryz.underlying30
 a53 := Tryz.isAgg30
 z53 := Tryz.sizeOf30
 v53 := Tryz.zeroValue30
 t171 := Tryz.underlying240
 a171 := Tryz.isAgg240
 z171 := Tryz.sizeOf240
 v171 := Tryz.zeroValue240
 t173 := Tryz.underlying242
 a173 := Tryz.isAgg242
 z173 := Tryz.sizeOf242
 v173 := Tryz.zeroValue242
 t212 := Tryz.underlying250
 a212 := Tryz.isAgg250
 z212 := Tryz.sizeOf250
 v212 := Tryz.zeroValue250
 t213 := Tryz.underlying251
 a213 := Tryz.isAgg251
 z213 := Tryz.sizeOf251
 t232 := Tryz.underlying255
 a232 := Tryz.isAgg255
 z232 := Tryz.sizeOf255
 v232 := Tryz.zeroValue255
 t233 := Tryz.underlying256
 a233 := Tryz.isAgg256
 z233 := Tryz.sizeOf256
 v233 := Tryz.zeroValue256
 g17 := by kernel_rfl
 g18 := by kernel_rfl
 g19 := by kernel_rfl }
open Go.RowKit Go.Sort Go.Lib in
theorem Tryz.internal_strconv_Itoa_small (i : Nat) (hi : i < 100) (w : World) :
  Calls Tryz.prog 125 #[.int .i64 i] w fun e w' => e = .returned (.string ⟨(Lib.decDigits i).toArray⟩) ∧ w' = w := Any.internal_strconv_Itoa_small Tryz.lays243 i hi w
def Tryz.laysM171_ren : Go.Shelf.Ren := ⟨fun | 171 => 84 | 243 => 125 | 246 => 160 | 283 => 178 | 284 => 179 | 285 => 180 | 286 => 181 | 129 => 147 | 317 => 186 | 318 => 187 | 319 => 188 | 320 => 189 | 337 => 193 | 338 => 194 | n => n, fun | 3 => 3 | 9 => 9 | 2 => 2 | 4 => 4 | 171 => 240 | 0 => 0 | 53 => 30 | 37 => 22 | 5 => 5 | 173 => 242 | 212 => 250 | 51 => 45 | 20 => 20 | 213 => 251 | 46 => 104 | 232 => 255 | 233 => 256 | n => n, fun | 17 => 0 | 18 => 1 | 19 => 2 | n => n⟩
theorem Tryz.laysM171 : Go.Proofs.LaysM.n171 Tryz.prog Tryz.laysM171_ren := {
 mixed := by kernel_rfl
 f129 := Tryz.func147.trans (congrArg some (by kernel_rfl))
 f171 := Tryz.func84.trans (congrArg some (by kernel_rfl))
 f243 := Tryz.func125.trans (congrArg some (by kernel_rfl))
 f246 := Tryz.func160.trans (congrArg some (by kernel_rfl))
 f283 := Tryz.func178.trans (congrArg some (by kernel_rfl))
 f284 := Tryz.func179.trans (congrArg some (by kernel_rfl))
 f285 := Tryz.func180.trans (congrArg some (by kernel_rfl))
 f286 := Tryz.func181.trans (congrArg some (by kernel_rfl))
 f317 := Tryz.func186.trans (congrArg some (by kernel_rfl))
 f318 := Tryz.func187.trans (congrArg some (by kernel_rfl))
 f319 := Tryz.func188.trans (congrArg some (by kernel_rfl))
 f320 := Tryz.func189.trans (congrArg some (by kernel_rfl))
 f337 := Tryz.func193.trans (congrArg some (by kernel_rfl))
 f338 := Tryz.func194.trans (congrArg some (by kernel_rfl))
 t0 := Tryz.underlying0
 a0 := Tryz.isAgg0
 z0 := Tryz.sizeOf0
 v0 := Tryz.zeroValue0
 t2 := Tryz.underlying2
 a2 := Tryz.isAgg2
 z2 := Tryz.sizeOf2
 v2 := Tryz.zeroValue2
 t3 := Tryz.underlying3
 a3 := Tryz.isAgg3
 z3 := Tryz.sizeOf3
 v3 := Tryz.zeroValue3
 t4 := Tryz.underlying4
 a4 := Tryz.isAgg4
 z4 := Tryz.sizeOf4
 v4 := Tryz.zeroValue4
 t5 := Tryz.underlying5
 a5 := Tryz.isAgg5
 z5 := Tryz.sizeOf5
 v5 := Tryz.zeroValue5
 t9 := Tryz.underlying9
 a9 := Tryz.isAgg9
 z9 := Tryz.sizeOf9
 v9 := Tryz.zeroValue9
 t20 := Tryz.underlying20
 a20 := Tryz.isAgg20
 z20 := Tryz.sizeOf20
 v20 := Tryz.zeroValue20
 t37 := Tryz.underlying22
 a37 := Tryz.isAgg22
 z37 := Tryz.sizeOf22
 v37 := Tryz.zeroValue22
 t46 := Tryz.underlying104
 a46 := Tryz.isAgg104
 z46 := Tryz.sizeOf104
 v46 := Tryz.zeroValue104
 t51 := Tryz.underlying45
 a51 := Tryz.isAgg45
 z51 := Tryz.sizeOf45
 v51 := Tryz.zeroValue45
 t53 := Tryz.underlying30
 a53 := Tryz.isAgg30
 z53 := Tryz.sizeOf30
 v53 := Tryz.zeroValue30
 t171 := Tryz.underlying240
 a171 := Tryz.isAgg240
 z171 := Tryz.sizeOf240
 v171 := Tryz.zeroValue240
 t173 := Tryz.underlying242
 a173 := Tryz.isAgg242
 z173 := Tryz.sizeOf242
 v173 := Tryz.zeroValue242
 t212 := Tryz.underlying250
 a212 := Tryz.isAgg250
 z212 := Tryz.sizeOf250
 v212 := Tryz.zeroValue250
 t213 := Tryz.underlying251
 a213 := Tryz.isAgg251
 z213 := Tryz.sizeOf251
 t232 := Tryz.underlying255
 a232 := Tryz.isAgg255
 z232 := Tryz.sizeOf255
 v232 := Tryz.zeroValue255
 t233 := Tryz.underlying256
 a233 := Tryz.isAgg256
 z233 := Tryz.sizeOf256
 v233 := Tryz.zeroValue256
 g17 := by kernel_rfl
 g18 := by kernel_rfl
 g19 := by kernel_rfl
 i0 := by kernel_rfl
 i2 := by kernel_rfl
 i3 := by kernel_rfl
 i4 := by kernel_rfl
 i5 := by kernel_rfl
 i9 := by kernel_rfl
 i20 := by kernel_rfl
 i37 := by kernel_rfl
 i46 := by kernel_rfl
 i51 := by kernel_rfl
 i53 := by kernel_rfl
 i171 := by kernel_rfl
 i173 := by kernel_rfl
 i212 := by kernel_rfl
 i232 := by kernel_rfl
 i233 := by kernel_rfl
 m17 := by kernel_rfl
 m18 := by kernel_rfl
 m19 := by kernel_rfl }
open Go.RowKit Go.Sort Go.Lib in
theorem Tryz.strconv_Itoa (n : Int) (h0 : -9223372036854775808 ≤ n) (h1 : n ≤ 9223372036854775807) (w : World) (htab : Lib.TabIs Tryz.prog w "internal/strconv.uint64pow10" .u64 Lib.pow10Tab) :
  Calls Tryz.prog 84 #[.int .i64 n] w fun e w' => e = .returned (.string ⟨(Lib.itoa n).toArray⟩) ∧ ∃ k os, w' = grow (w.drewN k) os := Any.strconv_Itoa Tryz.laysM171 n h0 h1 w htab
def Tryz.sortCo_ren : Go.Shelf.Ren := ⟨fun | 6 => 55 | 15 => 109 | 14 => 108 | 28 => 146 | 29 => 147 | 20 => 138 | 21 => 139 | 22 => 140 | 23 => 141 | 24 => 142 | 25 => 143 | 26 => 144 | 27 => 145 | 46 => 168 | 47 => 169 | 48 => 170 | 49 => 171 | 50 => 172 | 57 => 184 | n => n, fun | 22 => 61 | 24 => 50 | 25 => 134 | 3 => 3 | 39 => 104 | 0 => 0 | 53 => 45 | 55 => 30 | 4 => 4 | 46 => 212 | 45 => 211 | 50 => 216 | 5 => 5 | 9 => 9 | 66 => 232 | 70 => 236 | 76 => 245 | 77 => 246 | n => n, fun | n => n⟩
theorem Tryz.sortCo : Go.Proofs.SlLaysF0.n6 Tryz.prog Tryz.sortCo_ren := {
 mixed := by kernel_rfl
 f6 := ⟨Tryz.f55.name, by decide, Tryz.func55.trans (congrArg some (by kernel_rfl))⟩
 f14 := ⟨Tryz.f108.name, by decide, Tryz.func108.trans (congrArg some (by kernel_rfl))⟩
 f15 := Tryz.func109.trans (congrArg some (by kernel_rfl))
 f20 := ⟨Tryz.f138.name, by decide, Tryz.func138.trans (congrArg some (by kernel_rfl))⟩
 f21 := ⟨Tryz.f139.name, by decide, Tryz.func139.trans (congrArg some (by kernel_rfl))⟩
 f22 := ⟨Tryz.f140.name, by decide, Tryz.func140.trans (congrArg some (by kernel_rfl))⟩
 f23 := ⟨Tryz.f141.name, by decide, Tryz.func141.trans (congrArg some (by kernel_rfl))⟩
 f24 := ⟨Tryz.f142.name, by decide, Tryz.func142.trans (congrArg some (by kernel_rfl))⟩
 f25 := ⟨Tryz.f143.name, by decide, Tryz.func143.trans (congrArg some (by kernel_rfl))⟩
 f26 := ⟨Tryz.f144.name, by decide, Tryz.func144.trans (congrArg some (by kernel_rfl))⟩
 f27 := ⟨Tryz.f145.name, by decide, Tryz.func145.trans (congrArg some (by kernel_rfl))⟩
 f28 := Tryz.func146.trans (congrArg some (by kernel_rfl))
 f29 := Tryz.func147.trans (congrArg some (by kernel_rfl))
 f46 := ⟨Tryz.f168.name, by decide, Tryz.func168.trans (congrArg some (by kernel_rfl))⟩
 f47 := Tryz.func169.trans (congrArg some (by kernel_rfl))
 f48 := Tryz.func170.trans (congrArg some (by kernel_rfl))
 f49 := ⟨Tryz.f171.name, by decide, Tryz.func171.trans (congrArg some (by kernel_rfl))⟩
 f50 := ⟨Tryz.f172.name, by decide, Tryz.func172.trans (congrArg some (by kernel_rfl))⟩
 f57 := ⟨Tryz.f184.name, by decide, Tryz.func184.trans (congrArg some (by kernel_rfl))⟩
 t0 := Tryz.underlying0
 a0 := Tryz.isAgg0
 z0 := Tryz.sizeOf0
 v0 := Tryz.zeroValue0
 t3 := Tryz.underlying3
 a3 := Tryz.isAgg3
 z3 := Tryz.sizeOf3
 v3 := Tryz.zeroValue3
 t4 := Tryz.underlying4
 a4 := Tryz.isAgg4
 z4 := Tryz.sizeOf4
 v4 := Tryz.zeroValue4
 t5 := Tryz.underlying5
 a5 := Tryz.isAgg5
 z5 := Tryz.sizeOf5
 v5 := Tryz.zeroValue5
 t9 := Tryz.underlying9
 a9 := Tryz.isAgg9
 z9 := Tryz.sizeOf9
 v9 := Tryz.zeroValue9
 t22 := Tryz.underlying61
 a22 := Tryz.isAgg61
 z22 := Tryz.sizeOf61
 v22 := Tryz.zeroValue61
 t25 := Tryz.underlying134
 a25 := Tryz.isAgg134
 z25 := Tryz.sizeOf134
 v25 := Tryz.zeroValue134
 t39 := Tryz.underlying104
 a39 := Tryz.isAgg104
 z39 := Tryz.sizeOf104
 v39 := Tryz.zeroValue104
 t45 := Tryz.underlying211
 a45 := Tryz.isAgg211
 z45 := Tryz.sizeOf211
 v45 := Tryz.zeroValue211
 t46 := Tryz.underlying212
 a46 := Tryz.isAgg212
 z46 := Tryz.sizeOf212
 v46 := Tryz.zeroValue212
 t50 := Tryz.underlying216
 a50 := Tryz.isAgg216
 z50 := Tryz.sizeOf216
 v50 := Tryz.zeroValue216
 t53 := Tryz.underlying45
 a53 := Tryz.isAgg45
 z53 := Tryz.sizeOf45
 v53 := Tryz.zeroValue45
 t55 := Tryz.underlying30
 a55 := Tryz.isAgg30
 z55 := Tryz.sizeOf30
 v55 := Tryz.zeroValue30
 t66 := Tryz.underlying232
 a66 := Tryz.isAgg232
 z66 := Tryz.sizeOf232
 v66 := Tryz.zeroValue232
 t70 := Tryz.underlying236
 a70 := Tryz.isAgg236
 z70 := Tryz.sizeOf236
 v70 := Tryz.zeroValue236
 t76 := Tryz.underlying245
 a76 := Tryz.isAgg245
 z76 := Tryz.sizeOf245
 v76 := Tryz.zeroValue245
 t77 := Tryz.underlying246
 a77 := Tryz.isAgg246
 z77 := Tryz.sizeOf246
 v77 := Tryz.zeroValue246 }
def Tryz.sortCk_ren : Go.Shelf.Ren := ⟨fun | 6 => 65 | 15 => 109 | 14 => 111 | 28 => 146 | 29 => 147 | 20 => 148 | 21 => 149 | 22 => 150 | 23 => 151 | 24 => 152 | 25 => 153 | 26 => 154 | 27 => 155 | 46 => 173 | 47 => 169 | 48 => 170 | 49 => 174 | 50 => 175 | 57 => 185 | n => n, fun | 22 => 70 | 24 => 55 | 25 => 142 | 3 => 3 | 39 => 104 | 0 => 0 | 53 => 45 | 55 => 30 | 4 => 4 | 46 => 212 | 45 => 211 | 50 => 216 | 5 => 5 | 9 => 9 | 66 => 232 | 70 => 236 | 76 => 245 | 77 => 246 | n => n, fun | n => n⟩
theorem Tryz.sortCk : Go.Proofs.SlLaysF0.n6 Tryz.prog Tryz.sortCk_ren := {
 mixed := by kernel_rfl
 f6 := ⟨Tryz.f65.name, by decide, Tryz.func65.trans (congrArg some (by kernel_rfl))⟩
 f14 := ⟨Tryz.f111.name, by decide, Tryz.func111.trans (congrArg some (by kernel_rfl))⟩
 f15 := Tryz.func109.trans (congrArg some (by kernel_rfl))
 f20 := ⟨Tryz.f148.name, by decide, Tryz.func148.trans (congrArg some (by kernel_rfl))⟩
 f21 := ⟨Tryz.f149.name, by decide, Tryz.func149.trans (congrArg some (by kernel_rfl))⟩
 f22 := ⟨Tryz.f150.name, by decide, Tryz.func150.trans (congrArg some (by kernel_rfl))⟩
 f23 := ⟨Tryz.f151.name, by decide, Tryz.func151.trans (congrArg some (by kernel_rfl))⟩
 f24 := ⟨Tryz.f152.name, by decide, Tryz.func152.trans (congrArg some (by kernel_rfl))⟩
 f25 := ⟨Tryz.f153.name, by decide, Tryz.func153.trans (congrArg some (by kernel_rfl))⟩
 f26 := ⟨Tryz.f154.name, by decide, Tryz.func154.trans (congrArg some (by kernel_rfl))⟩
 f27 := ⟨Tryz.f155.name, by decide, Tryz.func155.trans (congrArg some (by kernel_rfl))⟩
 f28 := Tryz.func146.trans (congrArg some (by kernel_rfl))
 f29 := Tryz.func147.trans (congrArg some (by kernel_rfl))
 f46 := ⟨Tryz.f173.name, by decide, Tryz.func173.trans (congrArg some (by kernel_rfl))⟩
 f47 := Tryz.func169.trans (congrArg some (by kernel_rfl))
 f48 := Tryz.func170.trans (congrArg some (by kernel_rfl))
 f49 := ⟨Tryz.f174.name, by decide, Tryz.func174.trans (congrArg some (by kernel_rfl))⟩
 f50 := ⟨Tryz.f175.name, by decide, Tryz.func175.trans (congrArg some (by kernel_rfl))⟩
 f57 := ⟨Tryz.f185.name, by decide, Tryz.func185.trans (congrArg some (by kernel_rfl))⟩
 t0 := Tryz.underlying0
 a0 := Tryz.isAgg0
 z0 := Tryz.sizeOf0
 v0 := Tryz.zeroValue0
 t3 := Tryz.underlying3
 a3 := Tryz.isAgg3
 z3 := Tryz.sizeOf3
 v3 := Tryz.zeroValue3
 t4 := Tryz.underlying4
 a4 := Tryz.isAgg4
 z4 := Tryz.sizeOf4
 v4 := Tryz.zeroValue4
 t5 := Tryz.underlying5
 a5 := Tryz.isAgg5
 z5 := Tryz.sizeOf5
 v5 := Tryz.zeroValue5
 t9 := Tryz.underlying9
 a9 := Tryz.isAgg9
 z9 := Tryz.sizeOf9
 v9 := Tryz.zeroValue9
 t22 := Tryz.underlying70
 a22 := Tryz.isAgg70
 z22 := Tryz.sizeOf70
 v22 := Tryz.zeroValue70
 t25 := Tryz.underlying142
 a25 := Tryz.isAgg142
 z25 := Tryz.sizeOf142
 v25 := Tryz.zeroValue142
 t39 := Tryz.underlying104
 a39 := Tryz.isAgg104
 z39 := Tryz.sizeOf104
 v39 := Tryz.zeroValue104
 t45 := Tryz.underlying211
 a45 := Tryz.isAgg211
 z45 := Tryz.sizeOf211
 v45 := Tryz.zeroValue211
 t46 := Tryz.underlying212
 a46 := Tryz.isAgg212
 z46 := Tryz.sizeOf212
 v46 := Tryz.zeroValue212
 t50 := Tryz.underlying216
 a50 := Tryz.isAgg216
 z50 := Tryz.sizeOf216
 v50 := Tryz.zeroValue216
 t53 := Tryz.underlying45
 a53 := Tryz.isAgg45
 z53 := Tryz.sizeOf45
 v53 := Tryz.zeroValue45
 t55 := Tryz.underlying30
 a55 := Tryz.isAgg30
 z55 := Tryz.sizeOf30
 v55 := Tryz.zeroValue30
 t66 := Tryz.underlying232
 a66 := Tryz.isAgg232
 z66 := Tryz.sizeOf232
 v66 := Tryz.zeroValue232
 t70 := Tryz.underlying236
 a70 := Tryz.isAgg236
 z70 := Tryz.sizeOf236
 v70 := Tryz.zeroValue236
 t76 := Tryz.underlying245
 a76 := Tryz.isAgg245
 z76 := Tryz.sizeOf245
 v76 := Tryz.zeroValue245
 t77 := Tryz.underlying246
 a77 := Tryz.isAgg246
 z77 := Tryz.sizeOf246
 v77 := Tryz.zeroValue246 }

end Go.Proofs
