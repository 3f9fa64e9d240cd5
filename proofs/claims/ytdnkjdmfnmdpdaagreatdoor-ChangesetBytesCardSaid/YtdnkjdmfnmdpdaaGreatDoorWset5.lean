/- Walks: what functions return. -/
import Derived.Test.YtdnkjdmfnmdpdaaGreatDoorWcs
import Derived.Test.YtdnkjdmfnmdpdaaGreatDoorSortC
import Derived.Test.YtdnkjdmfnmdpdaaGreatDoorSe
set_option linter.unusedVariables false
set_option linter.unusedSimpArgs false
set_option linter.unnecessarySimpa false
namespace Go.Proofs.YtdnkjdmfnmdpdaaGreatDoor
open Go Go.Lx Go.RowKit Tryz
set_option maxRecDepth 100000
set_option maxHeartbeats 2000000 in
theorem cof_ok (w : World) (vl : Value) (l : List COp) (hl : Rd encCo 8 (Lt w.heap.size) w vl l) (nl : l.length ≤ 100000) (hok : ∀ x ∈ l, x.p.ok) : Ok Tryz.prog 16 #[vl] w fun v w' => (∃ a c, v = .tuple #[.agg #[.slice a (ofO l).1.length c], .int .i64 (ofO l).2] ∧ Sl encCo 8 (Fsh w w') w' a c (ofO l).1) ∧ Ext False w w' := by
 obtain ⟨al, cl, rfl, hl⟩ := hl; have ml := hl.len
 refine ZQ 72 func16 rfl rfl rfl ?_
 have hX := xRf w
 refine QH (Qc ?_)
 refine Z2 rfl (JK zeroValue63) ?_
 intro b2 w1 x2 hge2 hb2
 have hlt2 := hb2.lt
 change Box _ _ _ ([.slice _ _ _]) at hb2
 have z3 := x2.size
 replace hX := hX.ex x2
 replace hl := hl.ext x2
 refine Rr Zi ?_
 refine Qg (QH (QH (Qc ?_)))
 refine Rr (mvS rfl) ?_
 refine Rr (Z0 underlying61 rfl) ?_
 refine Rr Jj ?_
 refine Qg (ZM ?_)
 refine Jk (α := Nat) [(3, 3), (5, 6), (13, 23)] (fun k => [(13, .int .i64 (k : Int))]) (fun k w' => (k ≤ l.length ∧ ∀ j, j < k → checkO (l.getD j coz) = 0) ∧ Bel False (fun g => g = b2) w1 w' ∧ (Box w' b2 63 (wsS none 0 0))) (fun k => l.length - k) 0 ⟨rfl, trivial⟩ ⟨⟨Nat.zero_le _, fun j h => absurd h (Nat.not_lt_zero _)⟩, Bel.refl _ _, hb2⟩ ?_
 rintro k fb6 w5 ⟨⟨hk, hall⟩, hXL4, hb2⟩
 have z7 := Bel.size hXL4
 replace hX := Bel.out hX hXL4 om2
 replace hl := hl.keep hXL4 om3
 refine QH (Qc ?_)
 refine Rr (Z5 rfl rfl) ?_
 refine Qg (QH ?_)
 refine ZG rfl (fun hc1 => ?_) (fun hc1 => ?_)
 ·replace hc1 := dcT hc1
  refine ZH (QH (ZM (QH (Qc ?_))))
  refine Rr (Js underlying61 sizeOf50 hl rfl rfl omg) ?_
  refine Rr (Jx isAgg50 sizeOf50 hl rfl (Jw coz (by omega))) ?_
  refine Z8 rfl rfl zeroValue50 rfl sizeOf50 (fun _ => rfl) rfl rfl ?_
  intro b5 w8 x9 hge5 hb5
  have hlt5 := hb5.lt
  change Box _ _ _ (encCo _) at hb5
  have z10 := x9.size
  replace hX := hX.ex x9
  replace hXL4 := Bel.ex hXL4 x9
  replace hb2 := hb2.ext x9
  refine Qg (QH (Qc ?_))
  refine Rr (ZO isAgg50 sizeOf50 rfl hb5.at rfl) ?_
  refine ZC rfl (ZK call11 rfl) (Ok.mono (ccheck_ok (l.getD k coz) (hok _ (gm (show k < l.length by omega))) _) ?_)
  rintro _ w11 ⟨rfl, x12⟩
  have z13 := x12.size
  replace hX := hX.ex x12
  replace hXL4 := Bel.ex hXL4 x12
  replace hb2 := hb2.ext x12
  refine Rr (asI rfl) ?_
  refine Qg (QH (Qc ?_))
  refine Rr (mvI rfl) ?_
  refine Rr (JD rfl rfl) ?_
  refine Qg ?_
  refine ZG rfl (fun hc2 => ?_) (fun hc2 => ?_)
  ·have he : checkO (l.getD k coz) ≠ 0 := by simpa using hc2
   refine QH (Qc ?_)
   refine Rr (Z7 (cells := wsS none 0 0) (vs := []) rfl (by kernel_rfl)) ?_
   refine Rr (mvI rfl) ?_
   refine Ja (v := .agg _) rfl sizeOf63 rfl rfl hb2 rfl rfl rfl ?_
   intro w14 c15 hb2
   change Box _ _ _ (wsS _ _ _) at hb2
   have z16 := Bel.size c15
   replace hX := Bel.out hX c15 om2
   replace hXL4 := Bel.out hXL4 c15 om2
   refine Rr (asI rfl) ?_
   refine Qg (ZJ ?_)
   refine ⟨_, res_T (vs := [.agg _, .int _ _]) rfl ⟨Ju isAgg63 sizeOf63 rfl hb2.at rfl, rfl, trivial⟩ (by simp), ?_⟩
   have e0 : ofO l = ([], checkO (l.getD k coz)) := by rw [ofO, errO_at (by omega) hall he, if_pos he]
   rw [e0]
   exact ⟨⟨none, 0, rfl, Sl.none⟩, hX⟩
  have he : checkO (l.getD k coz) = 0 := by simpa using hc2
  refine ZH (Qc ?_)
  refine Rr (Z1 rfl rfl omg) ?_
  refine Rr (mvI rfl) ?_
  refine Qg ?_
  refine ⟨k + 1, ⟨sT, trivial⟩, oT, ⟨?_, hXL4, ?_⟩, ?_⟩
  ·exact ⟨by omega, fun j hj => (Nat.lt_succ_iff_lt_or_eq.1 hj).elim (hall j) (fun e => e ▸ he)⟩
  ·exact hb2
  ·omega
 replace hc1 := dcF hc1
 refine Z4 (ZX (QH (Qc ?_)))
 have hv : ∀ x ∈ l, Vo x := fun x hx => by
  obtain ⟨j, hj, rfl⟩ := List.mem_iff_getElem.1 hx
  have h1 := hall j (by omega)
  have h2 : l.getD j coz = l[j] := by simp [List.getD, hj]
  rw [h2] at h1
  exact ⟨hok _ hx, h1⟩
 refine Rr (mvS rfl) ?_
 refine ZC rfl (ZK call54 rfl) (Ok.mono (cclone_ok _ _ l hl.trd (by omega)) ?_)
 rintro v25 w17 ⟨hown25, x18⟩
 have z19 := x18.size
 replace hX := hX.ex x18
 replace hb2 := hb2.ext x18
 refine Rr (ZD (v := v25) rfl) ?_
 refine Qg (QH (Qc ?_))
 refine Rr (Zt (v := v25) rfl) ?_
 refine ZC rfl (ZW call55 rfl rfl) (Ok.mono (sortco_ok _ _ l _ hown25 (by omega) hv) ?_)
 rintro _ w20 ⟨rfl, x21, l2, hpm, hpw, hown25⟩
 have z22 := x21.size
 replace hX := Bel.out hX x21 om2
 replace hb2 := hb2.keep x21 om1
 refine Qg (QH (QH (Qc ?_)))
 refine Rr Zi ?_
 refine Qg (ZM ?_)
 refine Jk (α := Nat) [(3, 3), (8, 10), (28, 69)] (fun i => [(8, .int .i64 (i : Int))]) (fun i w' => (1 ≤ i ∧ ∀ j, j + 1 < i → adjB (l2.getD j coz) (l2.getD (j + 1) coz) = false) ∧ Bel False (fun g => g = b2) w20 w' ∧ (Box w' b2 63 (wsS none 0 0))) (fun i => l2.length - i) 1 ⟨rfl, trivial⟩ ⟨⟨Nat.le_refl _, fun j h => absurd h (by omega)⟩, Bel.refl _ _, hb2⟩ ?_
 rintro i fb25 w24 ⟨⟨hi1, hadjs⟩, hXL23, hb2⟩
 have z26 := Bel.size hXL23
 replace hX := Bel.out hX hXL23 om2
 replace hown25 := hown25.keepD hXL23 om3
 refine QH (QH (Qc ?_))
 have hl2 := hpm.length_eq
 obtain ⟨a25, c25, hv25, -⟩ := hown25.sl encCo_ok
 subst hv25
 refine Rr (mvI rfl) ?_
 refine Rr (Zt (v := .slice a25 l2.length c25) rfl) ?_
 refine Rr (o_llenO underlying61 rfl hown25) ?_
 refine Rr (Z5 rfl rfl) ?_
 refine Qg ?_
 refine ZG rfl (fun hc3 => ?_) (fun hc3 => ?_)
 ·replace hc3 := dcT hc3
  have hil : i < l2.length := by omega
  refine ZH (QH (ZM (QH ?_)))
  apply JA (β := False) (fun _ => 0) [peqC _, peqC _, peqC _, peqC _, peqC _, peqC _, peqC _, peqC _, peqC _, (postBoxK w24 50 [.bool false, .int .u8 0, .int .i64 0, .int .i64 0, .int .i64 0, str [], str [], .bool false] 1), (postBox w24 50 [.bool false, .int .u8 0, .int .i64 0, .int .i64 0, .int .i64 0, str [], str [], .bool false]), (postBoxK w24 50 (encCo _) 1)] [0, 0, 0, 0, 0, 0, 0, 0, 0, 1, 0, 1] 12 Jz (by kernel_rfl) (by kernel_rfl) rfl ⟨Q4 _ _, Q4 _ _, Q4 _ _, Q4 _ _, Q4 _ _, Q4 _ _, Q4 _ _, Q4 _ _, Q4 _ _, (postBoxK_stable), (postBox_stable), (postBoxK_stable), trivial⟩ ?ob13 ?fin13
  case ob13 =>
   refine Zb (fun w27 c29 x28 hc030 hk31 => ?_) ?_
   ·replace x28 := RelG.ext0 x28
    have z32 := x28.size
    refine QU ?_
    exact ZL rfl (Zt (v := .slice a25 l2.length c25) rfl)
   refine Zb (fun w33 c35 x34 hc036 hk37 => ?_) ?_
   ·replace x34 := RelG.ext0 x34
    have z38 := x34.size
    refine QU ?_
    exact ZL rfl (mvI rfl)
   refine Zb (fun w39 c41 x40 hc042 hk43 => ?_) ?_
   ·replace x40 := RelG.ext0 x40
    have z44 := x40.size
    refine Qk (QU ?_)
    exact ZL rfl (o_subN (p := i) (b := 1) rfl rfl (by omega) (by omega))
   refine Zb (fun w45 c47 x46 hc048 hk49 => ?_) ?_
   ·replace x46 := RelG.ext0 x46
    have z50 := x46.size
    have hown25 := hown25.ext x46
    refine Qk (Qk (QU ?_))
    exact ZL rfl (o_iaO (i := i - 1) underlying61 sizeOf50 hown25 rfl rfl (by omega))
   refine Zb (fun w51 c53 x52 hc054 hk55 => ?_) ?_
   ·replace x52 := RelG.ext0 x52
    have z56 := x52.size
    have hown25 := hown25.ext x52
    refine Qk (QU ?_)
    exact ZL rfl (Jx isAgg50 sizeOf50 (hown25.slA encCo_ok) rfl (Jw coz (by omega)))
   refine Zb (fun w57 c59 x58 hc060 hk61 => ?_) ?_
   ·replace x58 := RelG.ext0 x58
    have z62 := x58.size
    refine QU ?_
    exact ZL rfl (Zt (v := .slice a25 l2.length c25) rfl)
   refine Zb (fun w63 c65 x64 hc066 hk67 => ?_) ?_
   ·replace x64 := RelG.ext0 x64
    have z68 := x64.size
    refine QU ?_
    exact ZL rfl (mvI rfl)
   refine Zb (fun w69 c71 x70 hc072 hk73 => ?_) ?_
   ·replace x70 := RelG.ext0 x70
    have z74 := x70.size
    have hown25 := hown25.ext x70
    refine Qk (Qk (QU ?_))
    exact ZL rfl (o_iaO (i := i) underlying61 sizeOf50 hown25 rfl rfl (by omega))
   refine Zb (fun w75 c77 x76 hc078 hk79 => ?_) ?_
   ·replace x76 := RelG.ext0 x76
    have z80 := x76.size
    have hown25 := hown25.ext x76
    refine Qk (QU ?_)
    exact ZL rfl (Jx isAgg50 sizeOf50 (hown25.slA encCo_ok) rfl (Jw coz (by omega)))
   refine Zb (fun w81 c83 x82 hc084 hk85 => ?_) ?_
   ·replace x82 := RelG.ext0 x82
    have z86 := x82.size
    refine QU ?_
    exact OpC_boxK (kc := 1) (Bel.size x82) rfl (JK zeroValue50)
   refine Zb (fun w87 c89 x88 hc090 hk91 => ?_) ?_
   ·replace x88 := RelG.ext0 x88
    have z92 := x88.size
    refine QU ?_
    exact OpC_box (Bel.size x88) rfl (JK zeroValue50)
   refine Zb (fun w93 c95 x94 hc096 hk97 => ?_) ?_
   ·replace x94 := RelG.ext0 x94
    have z98 := x94.size
    refine ZE (fun v9 hv9 => ?_)
    obtain ⟨b9, rfl, hge9, hb9, hcb9⟩ := hv9
    refine Qk (Qk (Qk (Qk (Qk (Qk ?_)))))
    refine ZE (fun v9 hv9 => ?_)
    obtain ⟨b9, rfl, hge9, hb9, hcb9⟩ := hv9
    refine ZE (fun v10 hv10 => ?_)
    refine QU ?_
    exact OpC_storeLk (v := .agg _) (by decide) sizeOf50 rfl rfl hge9 hb9 hcb9 rfl rfl rfl
   exact Jv
  case fin13 =>
   intro w99 c101 x100 hc0102
   replace x100 := RelG.ext0 x100
   have z103 := x100.size
   replace hX := hX.ex x100
   replace hXL23 := Bel.ex hXL23 x100
   replace hb2 := hb2.ext x100
   refine Qk (Qk (Qk (Qk (Qk (Qk (Qk (Qk (Qk ?_))))))))
   refine ZE (fun v9 _ => ?_)
   refine ZE (fun v10 hv10 => ?_)
   refine bindC_lk (v := v9) rfl (fun hst11 => ?_)
   refine QU ?_
   obtain ⟨b10, rfl, hge10, hb10, hcb10⟩ := hv10
   have hlt10 := hb10.lt
   obtain ⟨b9, rfl, hge9, hb9, hcb9⟩ := hst11
   have hne910 : b9 ≠ b10 := fun e => by rw [e, hcb10] at hcb9; cases hcb9
   have hlt9 := hb9.lt
   refine Ja (v := .agg _) rfl sizeOf50 rfl rfl hb10 rfl rfl rfl ?_
   intro w104 c105 hb10
   change Box _ _ _ (encCo _) at hb10
   have z106 := Bel.size c105
   replace hX := Bel.out hX c105 om2
   replace hXL23 := Bel.out hXL23 c105 om2
   replace hb2 := hb2.keep c105 om1
   replace hb9 := hb9.keep c105 om1
   refine Qg (QH ?_)
   apply J3 (β := False) [peq _, peq _, peq _, peq _, peq _, peq _, peq _, peq _, peq _, peq _, peq _, peq _, peq _, peq _, peq _, peq _, peq _, peq _, peq _, peq _, peq _, peq _, peq _, peq _, peq _, peq _] 26 Jz (by kernel_rfl) rfl ⟨Zs _, Zs _, Zs _, Zs _, Zs _, Zs _, Zs _, Zs _, Zs _, Zs _, Zs _, Zs _, Zs _, Zs _, Zs _, Zs _, Zs _, Zs _, Zs _, Zs _, Zs _, Zs _, Zs _, Zs _, Zs _, Zs _, trivial⟩ ?ob14 ?fin14
   case ob14 =>
    refine ZA (fun w107 x108 => ?_) ?_
    ·have z109 := x108.size
     have hb9 := hb9.ext x108
     refine Zv ?_
     exact ZT rfl (ZO isAgg50 sizeOf50 rfl hb9.at rfl)
    refine ZA (fun w110 x111 => ?_) ?_
    ·have z112 := x111.size
     refine Qi (Zv ?_)
     exact OpS_call rfl (ZK call13 rfl) (ckey_ok (False) (l2.getD (i - 1) coz) _)
    refine ZA (fun w113 x114 => ?_) ?_
    ·have z115 := x114.size
     have hb10 := hb10.ext x114
     refine Zv ?_
     exact ZT rfl (ZO isAgg50 sizeOf50 rfl hb10.at rfl)
    refine ZA (fun w116 x117 => ?_) ?_
    ·have z118 := x117.size
     refine Qi (Qi (Zv ?_))
     exact OpS_call rfl (ZK call13 rfl) (ckey_ok (False) (l2.getD i coz) _)
    refine ZA (fun w119 x120 => ?_) ?_
    ·have z121 := x120.size
     refine Qi (Qi (Zv ?_))
     exact ZT rfl (o_teql eq_ck rfl rfl)
    refine ZA (fun w122 x123 => ?_) ?_
    ·have z124 := x123.size
     refine Qi (Qi (Zv ?_))
     exact ZT rfl (mvB rfl)
    refine ZA (fun w125 x126 => ?_) ?_
    ·have z127 := x126.size
     refine Qi (Zv ?_)
     exact Z9 5 48 rfl rfl (fun hg => (ZN underlying50 rfl sizeOf4 rfl))
    refine ZA (fun w128 x129 => ?_) ?_
    ·have z130 := x129.size
     have hb9 := hb9.ext x129
     refine Qi (Qi (Zv ?_))
     exact Z9 5 48 rfl rfl (fun hg => (ZB isAgg4 (ZU (u := undef) hg) (hb9.at.get 0 rfl)))
    refine ZA (fun w131 x132 => ?_) ?_
    ·have z133 := x132.size
     refine Qi (Qi (Qi (Zv ?_)))
     exact Z9 5 48 rfl rfl (fun hg => (Zt (v := .bool _) (ZU (u := undef) hg)))
    refine ZA (fun w134 x135 => ?_) ?_
    ·have z136 := x135.size
     refine Qi (Zv ?_)
     exact Jg 8 51 rfl rfl (fun hg => (ZN underlying50 rfl sizeOf4 rfl))
    refine ZA (fun w137 x138 => ?_) ?_
    ·have z139 := x138.size
     have hb10 := hb10.ext x138
     refine Qi (Qi (Zv ?_))
     exact Jg 8 51 rfl rfl (fun hg => (ZB isAgg4 (ZU (u := undef) hg) (hb10.at.get 0 rfl)))
    refine ZA (fun w140 x141 => ?_) ?_
    ·have z142 := x141.size
     refine Qi (Qi (Zv ?_))
     exact Jg 8 51 rfl rfl (fun hg => (Jf (ZU (u := undef) hg)))
    refine ZA (fun w143 x144 => ?_) ?_
    ·have z145 := x144.size
     refine Qi (Qi (Qi (Zv ?_)))
     exact Z9 5 48 rfl rfl (fun hg => (JP (u := undef) (ZU (u := undef) hg) (gand (u := undef) hg)))
    refine ZA (fun w146 x147 => ?_) ?_
    ·have z148 := x147.size
     refine Qi (Qi (Qi (Zv ?_)))
     exact Z9 5 48 rfl rfl (fun hg => (Zt (v := .bool _) (ZU (u := undef) hg)))
    refine ZA (fun w149 x150 => ?_) ?_
    ·have z151 := x150.size
     refine Qi (Zv ?_)
     exact Jg 13 56 rfl rfl (fun hg => (ZN underlying50 rfl sizeOf47 rfl))
    refine ZA (fun w152 x153 => ?_) ?_
    ·have z154 := x153.size
     have hb9 := hb9.ext x153
     refine Qi (Qi (Zv ?_))
     exact Jg 13 56 rfl rfl (fun hg => (ZB isAgg47 (ZU (u := undef) hg) (hb9.at.get 1 rfl)))
    refine ZA (fun w155 x156 => ?_) ?_
    ·have z157 := x156.size
     refine Qi (Qi (Zv ?_))
     exact Jg 13 56 rfl rfl (fun hg => (JD (ZU (u := undef) hg) rfl))
    refine ZA (fun w158 x159 => ?_) ?_
    ·have z160 := x159.size
     refine Qi (Qi (Qi (Zv ?_)))
     exact Z9 5 48 rfl rfl (fun hg => (JP (u := undef) (ZU (u := undef) hg) (gand (u := undef) hg)))
    refine ZA (fun w161 x162 => ?_) ?_
    ·have z163 := x162.size
     refine Qi (Qi (Qi (Zv ?_)))
     exact Z9 5 48 rfl rfl (fun hg => (Zt (v := .bool _) (ZU (u := undef) hg)))
    refine ZA (fun w164 x165 => ?_) ?_
    ·have z166 := x165.size
     refine Qi (Zv ?_)
     exact Jg 18 61 rfl rfl (fun hg => (ZN underlying50 rfl sizeOf3 rfl))
    refine ZA (fun w167 x168 => ?_) ?_
    ·have z169 := x168.size
     have hb9 := hb9.ext x168
     refine Qi (Qi (Zv ?_))
     exact Jg 18 61 rfl rfl (fun hg => (ZB isAgg3 (ZU (u := undef) hg) (hb9.at.get 4 rfl)))
    refine ZA (fun w170 x171 => ?_) ?_
    ·have z172 := x171.size
     refine Qi (Zv ?_)
     exact Jg 18 61 rfl rfl (fun hg => (ZN underlying50 rfl sizeOf3 rfl))
    refine ZA (fun w173 x174 => ?_) ?_
    ·have z175 := x174.size
     have hb10 := hb10.ext x174
     refine Qi (Qi (Zv ?_))
     exact Jg 18 61 rfl rfl (fun hg => (ZB isAgg3 (ZU (u := undef) hg) (hb10.at.get 4 rfl)))
    refine ZA (fun w176 x177 => ?_) ?_
    ·have z178 := x177.size
     refine Qi (Qi (Qi (Zv ?_)))
     exact Jg 18 61 rfl rfl (fun hg => (ZZ (ZU (u := undef) hg) (ZU (u := undef) hg)))
    refine ZA (fun w179 x180 => ?_) ?_
    ·have z181 := x180.size
     refine Qi (Qi (Qi (Zv ?_)))
     exact Z9 5 48 rfl rfl (fun hg => (JP (u := undef) (ZU (u := undef) hg) (gand (u := undef) hg)))
    refine ZA (fun w182 x183 => ?_) ?_
    ·have z184 := x183.size
     refine Qi (Qi (Zv ?_))
     exact ZT rfl (Jq (u := undef) rfl rfl)
    exact JG
   case fin14 =>
    intro w185 x186
    have z187 := x186.size
    replace hX := hX.ex x186
    replace hXL23 := Bel.ex hXL23 x186
    replace hb2 := hb2.ext x186
    refine Qi (Qi (Qi (Qi (Qi (Qi (Qi (Qi (Qi ?_))))))))
    refine Qi (Qi (Qi (Qi (Qi (Qi (Qi (Qi (Qi ?_))))))))
    refine Qi (Qi (Qi (Qi (Qi (Qi (Qi (Qi (Zv ?_))))))))
    refine Qg ?_
    refine ZG rfl (fun hc4 => ?_) (fun hc4 => ?_)
    ·have hadj : adjB (l2.getD (i - 1) coz) (l2.getD i coz) = true := hc4
     refine QH (Qc ?_)
     refine Rr (Z7 (cells := wsS none 0 0) (vs := []) rfl (by kernel_rfl)) ?_
     refine Ja (v := .agg _) rfl sizeOf63 rfl rfl hb2 rfl rfl rfl ?_
     intro w188 c189 hb2
     change Box _ _ _ (wsS _ _ _) at hb2
     have z190 := Bel.size c189
     replace hX := Bel.out hX c189 om2
     replace hXL23 := Bel.out hXL23 c189 om2
     refine Rr Zi ?_
     refine Qg (ZJ ?_)
     refine ⟨_, res_T (vs := [.agg _, .int _ _]) rfl ⟨Ju isAgg63 sizeOf63 rfl hb2.at rfl, rfl, trivial⟩ (by simp), ?_⟩
     have hcf : ¬ CF l := fun h => by
      have h1 := cf_adj (i := i - 1) (fun x hx => (hv x (hpm.mem_iff.1 hx)).wo) hpw (h.perm hpm.symm) (by omega)
      rw [show i - 1 + 1 = i by omega, hadj] at h1
      cases h1
     have e0 : ofO l = ([], 12) := by rw [ofO, if_neg (by rw [errO_none.2 fun o ho => (hv o ho).chk]; simp), if_neg hcf]
     rw [e0]
     exact ⟨⟨none, 0, rfl, Sl.none⟩, hX⟩
    have hadj : adjB (l2.getD (i - 1) coz) (l2.getD i coz) = false := hc4
    refine ZH (Qc ?_)
    refine Rr (mvI rfl) ?_
    refine Rr (Z1 rfl rfl omg) ?_
    refine Rr (asI rfl) ?_
    refine Qg ?_
    refine ⟨i + 1, ⟨sT, trivial⟩, oT, ⟨?_, hXL23, ?_⟩, ?_⟩
    ·exact ⟨by omega, fun j hj => (Nat.lt_succ_iff_lt_or_eq.1 hj).elim (hadjs j) (fun e => by obtain rfl : j = i - 1 := (by omega); rw [show i - 1 + 1 = i by omega]; exact hadj)⟩
    ·exact hb2
    ·omega
 replace hc3 := dcF hc3
 refine Z4 (ZX (QH (Qc ?_)))
 refine Rr (Zt (v := .slice a25 l2.length c25) rfl) ?_
 refine Rr (Z7 (cells := wsS a25 l2.length c25) (vs := [(0, .slice _ _ _)]) rfl (by kernel_rfl)) ?_
 refine Ja (v := .agg _) rfl sizeOf63 rfl rfl hb2 rfl rfl rfl ?_
 intro w191 c192 hb2
 change Box _ _ _ (wsS _ _ _) at hb2
 have z193 := Bel.size c192
 replace hX := Bel.out hX c192 om2
 replace hown25 := hown25.keepD c192 om3
 refine Rr Zi ?_
 refine Qg (ZJ ?_)
 refine ⟨_, res_T (vs := [.agg _, .int _ _]) rfl ⟨Ju isAgg63 sizeOf63 rfl hb2.at rfl, rfl, trivial⟩ (by simp), ?_⟩
 have hcf : CF l := (adj_cf (fun x hx => (hv x (hpm.mem_iff.1 hx)).wo) hpw (fun j hj => hadjs j (by omega))).perm hpm
 have e0 : ofO l = (l2, 0) := by rw [of_good hv hcf, ← sort_unique (fun x hx => (hv x hx).wo) hcf hpm hpw]
 rw [e0]
 exact ⟨⟨a25, c25, rfl, (hown25.slA encCo_ok).mono (fun g h1 h2 => ⟨by omega, by omega⟩)⟩, hX⟩

theorem cops_ok (a : Option Addr) (c : Nat) (G : Nat → Prop) (X : List COp) (w : World) (hs : Sl encCo 8 G w a c X) (hn : X.length ≤ 100000) : Ok Tryz.prog 59 #[.agg #[.slice a X.length c]] w fun v w' => Own encCo 8 50 (Fsh w w') w' v X ∧ Ext False w w' := by
 have hlen := hs.len
 replace hs := hs.mono (F' := fun g => G g ∧ g < w.heap.size) (fun g h1 h2 => ⟨h2, h1⟩)
 refine ZQ 6 func59 rfl rfl rfl ?_
 have hX := xRf w
 refine QH (Qc ?_)
 refine Z2 rfl (JB (v := .agg _) rfl) ?_
 intro b1 w1 x2 hge1 hb1
 have hlt1 := hb1.lt
 change Box _ _ _ (wsS _ _ _) at hb1
 have z3 := x2.size
 replace hX := hX.ex x2
 replace hs := hs.ext x2
 refine Rr Zi ?_
 refine Qg (QH (Qc ?_))
 refine Rr (ZN underlying63 rfl sizeOf61 rfl) ?_
 refine Rr (ZB isAgg61 rfl (hb1.at.get 0 rfl)) ?_
 refine ZC rfl (ZK call54 rfl) (Ok.mono (cclone_ok _ _ X hs.trd hn) ?_)
 rintro v5 w4 ⟨hown5, x5⟩
 have z6 := x5.size
 replace hX := hX.ex x5
 replace hown5 := hown5.mono (D' := fun g => w.heap.size ≤ g) (fun g h1 h2 => by omega)
 refine Rr (ZD (v := v5) rfl) ?_
 refine Qg (ZJ ?_)
 refine ⟨_, ZF rfl rfl, ?_⟩
 exact ⟨hown5.mono (fun g h1 h2 => by omega), hX⟩

theorem cempty_ok (a : Option Addr) (c : Nat) (G : Nat → Prop) (X : List COp) (w : World) (hs : Sl encCo 8 G w a c X) : Ok Tryz.prog 20 #[.agg #[.slice a X.length c]] w fun v w' => v = .bool ((X.length : Int) == 0) ∧ Ext False w w' := by
 have hlen := hs.len
 refine ZQ 7 func20 rfl rfl rfl ?_
 have hX := xRf w
 refine QH (Qc ?_)
 refine Z2 rfl (JB (v := .agg _) rfl) ?_
 intro b1 w1 x2 hge1 hb1
 change Box _ _ _ (wsS _ _ _) at hb1
 replace hX := hX.ex x2
 refine Rr Zi ?_
 refine Qg (QH (Qc ?_))
 refine Rr (ZN underlying63 rfl sizeOf61 rfl) ?_
 refine Rr (ZB isAgg61 rfl (hb1.at.get 0 rfl)) ?_
 refine Rr (Z0 underlying61 rfl) ?_
 refine Rr (ZZ rfl rfl) ?_
 refine Rr (asB rfl) ?_
 refine Qg (ZJ ?_)
 refine ⟨_, ZF rfl rfl, ?_⟩
 refine ⟨cvB ?_, hX⟩
 all_goals (rfl)

theorem csequal_ok (a b : Option Addr) (c d : Nat) (A C : Nat → Prop) (X Y : List COp) (w : World) (hx : Sl encCo 8 A w a c X) (hy : Sl encCo 8 C w b d Y) : Ok Tryz.prog 32 #[.agg #[.slice a X.length c], .agg #[.slice b Y.length d]] w fun v w' => v = .bool (X == Y) ∧ Ext False w w' := by
 replace hx := hx.mono (F' := fun g => g < w.heap.size) (fun g h1 h2 => h1)
 replace hy := hy.mono (F' := fun g => g < w.heap.size) (fun g h1 h2 => h1)
 refine ZQ 10 func32 rfl rfl rfl ?_
 have hX := xRf w
 refine QH (Qc ?_)
 refine Z2 rfl (JB (v := .agg _) rfl) ?_
 intro b2 w1 x2 hge2 hb2
 change Box _ _ _ (wsS _ _ _) at hb2
 replace hX := hX.ex x2
 replace hx := hx.ext x2
 replace hy := hy.ext x2
 refine Z2 rfl (JB (v := .agg _) rfl) ?_
 intro b3 w3 x4 hge3 hb3
 change Box _ _ _ (wsS _ _ _) at hb3
 replace hX := hX.ex x4
 replace hx := hx.ext x4
 replace hy := hy.ext x4
 replace hb2 := hb2.ext x4
 refine Rr Zi ?_
 refine Qg (QH (Qc ?_))
 refine Rr (ZN underlying63 rfl sizeOf61 rfl) ?_
 refine Rr (ZB isAgg61 rfl (hb2.at.get 0 rfl)) ?_
 refine Rr (ZN underlying63 rfl sizeOf61 rfl) ?_
 refine Rr (ZB isAgg61 rfl (hb3.at.get 0 rfl)) ?_
 refine ZC rfl (ZW call58 rfl rfl) (Ok.mono (coeq_ok _ _ _ _ _ _ _ _ _ hx hy) ?_)
 rintro _ w5 ⟨rfl, x6⟩
 replace hX := hX.ex x6
 refine Rr (asB rfl) ?_
 refine Qg (ZJ ?_)
 refine ⟨_, ZF rfl rfl, ?_⟩
 refine ⟨cvB ?_, hX⟩
 all_goals (rfl)

theorem ckeys_ok (a : Option Addr) (c : Nat) (G : Nat → Prop) (X : List COp) (w : World) (hs : Sl encCo 8 G w a c X) (hn : X.length ≤ 100000) : Ok Tryz.prog 22 #[.agg #[.slice a X.length c]] w fun v w' => Own encCk 6 55 (Fsh w w') w' v (keysO X) ∧ Ext False w w' := by
 have hlen := hs.len
 replace hs := hs.mono (F' := fun g => G g ∧ g < w.heap.size) (fun g h1 h2 => ⟨h2, h1⟩)
 refine ZQ 21 func22 rfl rfl rfl ?_
 have hX := xRf w
 refine QH (Qc ?_)
 refine Z2 rfl (JB (v := .agg _) rfl) ?_
 intro b1 w1 x2 hge1 hb1
 have hlt1 := hb1.lt
 change Box _ _ _ (wsS _ _ _) at hb1
 have z3 := x2.size
 replace hX := hX.ex x2
 replace hs := hs.ext x2
 refine Rr Zi ?_
 refine Qg (QH (Qc ?_))
 refine Rr Zi ?_
 refine Qg (QH (QH (Qc ?_)))
 refine Rr (ZN underlying63 rfl sizeOf61 rfl) ?_
 refine Rr (ZB isAgg61 rfl (hb1.at.get 0 rfl)) ?_
 refine Rr (Z0 underlying61 rfl) ?_
 refine Rr Jj ?_
 refine Qg (ZM ?_)
 refine Jk (α := Nat × Value) [(3, 3), (5, 5), (9, 18)] (fun q => [(9, .int .i64 (q.1 : Int)), (3, q.2)]) (fun q w' => (q.1 ≤ X.length) ∧ Bel False (fun g => w.heap.size ≤ g) w1 w' ∧ (Own encCk 6 55 (fun g => w.heap.size ≤ g) w' q.2 ((X.take q.1).map COp.key))) (fun q => X.length - q.1) (0, .slice none 0 0) ⟨rfl, rfl, trivial⟩ ⟨Nat.zero_le _, Bel.refl _ _, Own.nil _ _⟩ ?_
 rintro ⟨k, t⟩ fb6 w5 ⟨hk, hXL4, hown⟩
 dsimp only at *
 have z7 := Bel.size hXL4
 replace hX := Bel.out hX hXL4 om2
 replace hs := hs.keep hXL4 om3
 refine QH (Qc ?_)
 refine Rr (Z5 rfl rfl) ?_
 refine Qg (QH ?_)
 refine ZG rfl (fun hc1 => ?_) (fun hc1 => ?_)
 ·replace hc1 := dcT hc1
  refine ZH (QH (ZM (QH (Qc ?_))))
  refine Rr (Js underlying61 sizeOf50 hs rfl rfl omg) ?_
  refine Rr (Jx isAgg50 sizeOf50 hs rfl (Jw coz (by omega))) ?_
  refine Z8 rfl rfl zeroValue50 rfl sizeOf50 (fun _ => rfl) rfl rfl ?_
  intro b5 w8 x9 hge5 hb5
  have hlt5 := hb5.lt
  change Box _ _ _ (encCo _) at hb5
  have z10 := x9.size
  replace hX := hX.ex x9
  replace hXL4 := Bel.ex hXL4 x9
  replace hown := hown.ext x9
  refine Qg (Qc ?_)
  refine Rr (Zt (v := t) rfl) ?_
  refine Rr (ZO isAgg50 sizeOf50 rfl hb5.at rfl) ?_
  refine ZC rfl (ZK call13 rfl) (Ok.mono (ckey_ok (False) (X.getD k coz) _) ?_)
  rintro _ w11 ⟨rfl, x12⟩
  have z13 := x12.size
  replace hX := hX.ex x12
  replace hXL4 := Bel.ex hXL4 x12
  replace hown := hown.ext x12
  refine Jh (vs := [.agg _]) ([(X.getD k coz).key]) rfl encCk_ok el_ck rfl rfl ⟨rfl, trivial⟩ rfl rfl rfl rfl ?_
  intro a16 w14 x15 hown16
  have z16 := x15.size
  replace hX := hX.ex x15
  replace hXL4 := Bel.ex hXL4 x15
  replace hown := hown.ext x15
  replace hown16 := hown16.mono (D' := fun g => w.heap.size ≤ g) (fun g h1 h2 => by omega)
  refine Jd rfl encCk_ok el_ck rfl rfl hown (hown16.slA encCk_ok) rfl (by simp; omega) omU ?_
  intro v17 w17 x18 hown
  have z19 := x18.size
  replace hX := Bel.out hX x18 om2
  replace hXL4 := Bel.out hXL4 x18 om2
  refine Rr (ZD (v := v17) rfl) ?_
  refine Qg (Qc ?_)
  refine Rr (Z1 rfl rfl omg) ?_
  refine Rr (mvI rfl) ?_
  refine Qg ?_
  refine ⟨(k + 1, v17), ⟨sT, sT, trivial⟩, oT, ⟨?_, hXL4, ?_⟩, ?_⟩
  ·show k + 1 ≤ X.length; omega
  ·show Own _ _ _ _ _ _ ((X.take (k + 1)).map _)
   rw [takeK (by omega)]; exact hown.mono (fun g h1 h2 => by omega)
  ·show X.length - (k + 1) < X.length - k; omega
 replace hc1 := dcF hc1
 refine Z4 (ZX (QH (Qc ?_)))
 rw [List.take_of_length_le (by omega)] at hown
 refine Rr (Zt (v := t) rfl) ?_
 refine ZC rfl (ZK call60 rfl) (Ok.mono (ckcompV _ _ _ _ hown) ?_)
 rintro v20 w20 ⟨hown, x21⟩
 have z22 := x21.size
 replace hX := Bel.out hX x21 om2
 refine Rr (ZD (v := v20) rfl) ?_
 refine Qg (ZJ ?_)
 refine ⟨_, ZF rfl rfl, ?_⟩
 exact ⟨hown.mono (fun g h1 h2 => by omega), hX⟩

