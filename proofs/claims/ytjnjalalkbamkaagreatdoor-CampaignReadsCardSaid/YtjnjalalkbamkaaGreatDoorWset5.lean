/- Walks: what functions return. -/
import Derived.Test.YtjnjalalkbamkaaGreatDoorWcs
import Derived.Test.YtjnjalalkbamkaaGreatDoorSortC
import Derived.Test.YtjnjalalkbamkaaGreatDoorLk
set_option linter.unusedVariables false
set_option linter.unusedSimpArgs false
set_option linter.unnecessarySimpa false
namespace Go.Proofs.YtjnjalalkbamkaaGreatDoor
open Go Go.Lx Go.RowKit Tryz
set_option maxRecDepth 100000
set_option maxHeartbeats 2000000 in
theorem cof_ok (w : World) (vl : Value) (l : List COp) (hl : Rd encCo 8 (Lt w.heap.size) w vl l) (nl : l.length ≤ 100000) (hok : ∀ x ∈ l, x.p.ok) : Ok Tryz.prog 57 #[vl] w fun v w' => (∃ a c, v = .tuple #[.agg #[.slice a (ofO l).1.length c], .int .i64 (ofO l).2] ∧ Sl encCo 8 (Fsh w w') w' a c (ofO l).1) ∧ Ext False w w' := by
 obtain ⟨al, cl, rfl, hl⟩ := hl; have ml := hl.len
 refine Qz 72 func57 rfl rfl rfl ?_
 have hX := xRf w
 refine Qe (Qc ?_)
 refine QJ rfl (Zh zeroValue62) ?_
 intro b2 w1 x2 hge2 hb2
 have hlt2 := hb2.lt
 change Box _ _ _ ([.slice _ _ _]) at hb2
 have z3 := x2.size
 replace hX := hX.ex x2
 replace hl := hl.ext x2
 refine Rr Qm ?_
 refine Qd (Qe (Qe (Qc ?_)))
 refine Rr (mvS rfl) ?_
 refine Rr (QK underlying60 rfl) ?_
 refine Rr QT ?_
 refine Qd (QB ?_)
 refine Za (α := Nat) [(3, 3), (5, 6), (13, 23)] (fun k => [(13, .int .i64 (k : Int))]) (fun k w' => (k ≤ l.length ∧ ∀ j, j < k → checkO (l.getD j coz) = 0) ∧ Bel False (fun g => g = b2) w1 w' ∧ (Box w' b2 62 (wsS none 0 0))) (fun k => l.length - k) 0 ⟨rfl, trivial⟩ ⟨⟨Nat.zero_le _, fun j h => absurd h (Nat.not_lt_zero _)⟩, Bel.refl _ _, hb2⟩ ?_
 rintro k fb6 w5 ⟨⟨hk, hall⟩, hXL4, hb2⟩
 have z7 := Bel.size hXL4
 replace hX := Bel.out hX hXL4 om2
 replace hl := hl.keep hXL4 om3
 refine Qe (Qc ?_)
 refine Rr (QQ rfl rfl) ?_
 refine Qd (Qe ?_)
 refine QD rfl (fun hc1 => ?_) (fun hc1 => ?_)
 ·replace hc1 := dcT hc1
  refine Qu (Qe (QB (Qe (Qc ?_))))
  refine Rr (Zg underlying60 sizeOf121 hl rfl rfl omg) ?_
  refine Rr (o_ldRS isAgg121 sizeOf121 hl rfl (getE coz (by omega))) ?_
  refine Rg_alst rfl rfl zeroValue121 rfl sizeOf121 (fun _ => rfl) rfl rfl ?_
  intro b5 w8 x9 hge5 hb5
  have hlt5 := hb5.lt
  change Box _ _ _ (encCo _) at hb5
  have z10 := x9.size
  replace hX := hX.ex x9
  replace hXL4 := Bel.ex hXL4 x9
  replace hb2 := hb2.ext x9
  refine Qd (Qe (Qc ?_))
  refine Rr (QO isAgg121 sizeOf121 rfl hb5.at rfl) ?_
  refine Qo rfl (QA call92 rfl) (Ok.mono (ccheck_ok (l.getD k coz) (hok _ (gm (show k < l.length by omega))) _) ?_)
  rintro _ w11 ⟨rfl, x12⟩
  have z13 := x12.size
  replace hX := hX.ex x12
  replace hXL4 := Bel.ex hXL4 x12
  replace hb2 := hb2.ext x12
  refine Rr (asI rfl) ?_
  refine Qd (Qe (Qc ?_))
  refine Rr (mvI rfl) ?_
  refine Rr (o_neq rfl rfl) ?_
  refine Qd ?_
  refine QD rfl (fun hc2 => ?_) (fun hc2 => ?_)
  ·have he : checkO (l.getD k coz) ≠ 0 := by simpa using hc2
   refine Qe (Qc ?_)
   refine Rr (QZ (cells := wsS none 0 0) (vs := []) rfl (by kernel_rfl)) ?_
   refine Rr (mvI rfl) ?_
   refine QX (v := .agg _) rfl sizeOf62 rfl rfl hb2 rfl rfl rfl ?_
   intro w14 c15 hb2
   change Box _ _ _ (wsS _ _ _) at hb2
   have z16 := Bel.size c15
   replace hX := Bel.out hX c15 om2
   replace hXL4 := Bel.out hXL4 c15 om2
   refine Rr (asI rfl) ?_
   refine Qd (Qy ?_)
   refine ⟨_, res_T (vs := [.agg _, .int _ _]) rfl ⟨rv_cellS isAgg62 sizeOf62 rfl hb2.at rfl, rfl, trivial⟩ (by simp), ?_⟩
   have e0 : ofO l = ([], checkO (l.getD k coz)) := by rw [ofO, errO_at (by omega) hall he, if_pos he]
   rw [e0]
   exact ⟨⟨none, 0, rfl, Sl.none⟩, hX⟩
  have he : checkO (l.getD k coz) = 0 := by simpa using hc2
  refine Qu (Qc ?_)
  refine Rr (Q6 rfl rfl omg) ?_
  refine Rr (mvI rfl) ?_
  refine Qd ?_
  refine ⟨k + 1, ⟨sT, trivial⟩, oT, ⟨?_, hXL4, ?_⟩, ?_⟩
  ·exact ⟨by omega, fun j hj => (Nat.lt_succ_iff_lt_or_eq.1 hj).elim (hall j) (fun e => e ▸ he)⟩
  ·exact hb2
  ·omega
 replace hc1 := dcF hc1
 refine QS (QL (Qe (Qc ?_)))
 have hv : ∀ x ∈ l, Vo x := fun x hx => by
  obtain ⟨j, hj, rfl⟩ := List.mem_iff_getElem.1 hx
  have h1 := hall j (by omega)
  have h2 : l.getD j coz = l[j] := by simp [List.getD, hj]
  rw [h2] at h1
  exact ⟨hok _ hx, h1⟩
 refine Rr (mvS rfl) ?_
 refine Qo rfl (QA call58 rfl) (Ok.mono (cclone_ok _ _ l hl.trd (by omega)) ?_)
 rintro v25 w17 ⟨hown25, x18⟩
 have z19 := x18.size
 replace hX := hX.ex x18
 replace hb2 := hb2.ext x18
 refine Rr (Qv (v := v25) rfl) ?_
 refine Qd (Qe (Qc ?_))
 refine Rr (Ql (v := v25) rfl) ?_
 refine Qo rfl (QM call93 rfl rfl) (Ok.mono (sortco_ok _ _ l _ hown25 (by omega) hv) ?_)
 rintro _ w20 ⟨rfl, x21, l2, hpm, hpw, hown25⟩
 have z22 := x21.size
 replace hX := Bel.out hX x21 om2
 replace hb2 := hb2.keep x21 om1
 refine Qd (Qe (Qe (Qc ?_)))
 refine Rr Qm ?_
 refine Qd (QB ?_)
 refine Za (α := Nat) [(3, 3), (8, 10), (28, 69)] (fun i => [(8, .int .i64 (i : Int))]) (fun i w' => (1 ≤ i ∧ ∀ j, j + 1 < i → adjB (l2.getD j coz) (l2.getD (j + 1) coz) = false) ∧ Bel False (fun g => g = b2) w20 w' ∧ (Box w' b2 62 (wsS none 0 0))) (fun i => l2.length - i) 1 ⟨rfl, trivial⟩ ⟨⟨Nat.le_refl _, fun j h => absurd h (by omega)⟩, Bel.refl _ _, hb2⟩ ?_
 rintro i fb25 w24 ⟨⟨hi1, hadjs⟩, hXL23, hb2⟩
 have z26 := Bel.size hXL23
 replace hX := Bel.out hX hXL23 om2
 replace hown25 := hown25.keepD hXL23 om3
 refine Qe (Qe (Qc ?_))
 have hl2 := hpm.length_eq
 obtain ⟨a25, c25, hv25, -⟩ := hown25.sl encCo_ok
 subst hv25
 refine Rr (mvI rfl) ?_
 refine Rr (Ql (v := .slice a25 l2.length c25) rfl) ?_
 refine Rr (o_llenO underlying60 rfl hown25) ?_
 refine Rr (QQ rfl rfl) ?_
 refine Qd ?_
 refine QD rfl (fun hc3 => ?_) (fun hc3 => ?_)
 ·replace hc3 := dcT hc3
  have hil : i < l2.length := by omega
  refine Qu (Qe (QB (Qe ?_)))
  apply Ze (β := False) (fun _ => 0) [peqC _, peqC _, peqC _, peqC _, peqC _, peqC _, peqC _, peqC _, peqC _, (postBoxK w24 121 [.bool false, .int .u8 0, .int .i64 0, .int .i64 0, .int .i64 0, str [], str [], .bool false] 1), (postBox w24 121 [.bool false, .int .u8 0, .int .i64 0, .int .i64 0, .int .i64 0, str [], str [], .bool false]), (postBoxK w24 121 (encCo _) 1)] [0, 0, 0, 0, 0, 0, 0, 0, 0, 1, 0, 1] 12 Q9 (by kernel_rfl) (by kernel_rfl) rfl ⟨Qi _ _, Qi _ _, Qi _ _, Qi _ _, Qi _ _, Qi _ _, Qi _ _, Qi _ _, Qi _ _, (postBoxK_stable), (postBox_stable), (postBoxK_stable), trivial⟩ ?ob13 ?fin13
  case ob13 =>
   refine Qk (fun w27 c29 x28 hc030 hk31 => ?_) ?_
   ·replace x28 := RelG.ext0 x28
    have z32 := x28.size
    refine Qj ?_
    exact Qs rfl (Ql (v := .slice a25 l2.length c25) rfl)
   refine Qk (fun w33 c35 x34 hc036 hk37 => ?_) ?_
   ·replace x34 := RelG.ext0 x34
    have z38 := x34.size
    refine Qj ?_
    exact Qs rfl (mvI rfl)
   refine Qk (fun w39 c41 x40 hc042 hk43 => ?_) ?_
   ·replace x40 := RelG.ext0 x40
    have z44 := x40.size
    refine Qb (Qj ?_)
    exact Qs rfl (o_subN (p := i) (b := 1) rfl rfl (by omega) (by omega))
   refine Qk (fun w45 c47 x46 hc048 hk49 => ?_) ?_
   ·replace x46 := RelG.ext0 x46
    have z50 := x46.size
    have hown25 := hown25.ext x46
    refine Qb (Qb (Qj ?_))
    exact Qs rfl (Zf (i := i - 1) underlying60 sizeOf121 hown25 rfl rfl (by omega))
   refine Qk (fun w51 c53 x52 hc054 hk55 => ?_) ?_
   ·replace x52 := RelG.ext0 x52
    have z56 := x52.size
    have hown25 := hown25.ext x52
    refine Qb (Qj ?_)
    exact Qs rfl (o_ldRS isAgg121 sizeOf121 (hown25.slA encCo_ok) rfl (getE coz (by omega)))
   refine Qk (fun w57 c59 x58 hc060 hk61 => ?_) ?_
   ·replace x58 := RelG.ext0 x58
    have z62 := x58.size
    refine Qj ?_
    exact Qs rfl (Ql (v := .slice a25 l2.length c25) rfl)
   refine Qk (fun w63 c65 x64 hc066 hk67 => ?_) ?_
   ·replace x64 := RelG.ext0 x64
    have z68 := x64.size
    refine Qj ?_
    exact Qs rfl (mvI rfl)
   refine Qk (fun w69 c71 x70 hc072 hk73 => ?_) ?_
   ·replace x70 := RelG.ext0 x70
    have z74 := x70.size
    have hown25 := hown25.ext x70
    refine Qb (Qb (Qj ?_))
    exact Qs rfl (Zf (i := i) underlying60 sizeOf121 hown25 rfl rfl (by omega))
   refine Qk (fun w75 c77 x76 hc078 hk79 => ?_) ?_
   ·replace x76 := RelG.ext0 x76
    have z80 := x76.size
    have hown25 := hown25.ext x76
    refine Qb (Qj ?_)
    exact Qs rfl (o_ldRS isAgg121 sizeOf121 (hown25.slA encCo_ok) rfl (getE coz (by omega)))
   refine Qk (fun w81 c83 x82 hc084 hk85 => ?_) ?_
   ·replace x82 := RelG.ext0 x82
    have z86 := x82.size
    refine Qj ?_
    exact OpC_boxK (kc := 1) (Bel.size x82) rfl (Zh zeroValue121)
   refine Qk (fun w87 c89 x88 hc090 hk91 => ?_) ?_
   ·replace x88 := RelG.ext0 x88
    have z92 := x88.size
    refine Qj ?_
    exact OpC_box (Bel.size x88) rfl (Zh zeroValue121)
   refine Qk (fun w93 c95 x94 hc096 hk97 => ?_) ?_
   ·replace x94 := RelG.ext0 x94
    have z98 := x94.size
    refine Qw (fun v9 hv9 => ?_)
    obtain ⟨b9, rfl, hge9, hb9, hcb9⟩ := hv9
    refine Qb (Qb (Qb (Qb (Qb (Qb ?_)))))
    refine Qw (fun v9 hv9 => ?_)
    obtain ⟨b9, rfl, hge9, hb9, hcb9⟩ := hv9
    refine Qw (fun v10 hv10 => ?_)
    refine Qj ?_
    exact OpC_storeLk (v := .agg _) (by decide) sizeOf121 rfl rfl hge9 hb9 hcb9 rfl rfl rfl
   exact Q8
  case fin13 =>
   intro w99 c101 x100 hc0102
   replace x100 := RelG.ext0 x100
   have z103 := x100.size
   replace hX := hX.ex x100
   replace hXL23 := Bel.ex hXL23 x100
   replace hb2 := hb2.ext x100
   refine Qb (Qb (Qb (Qb (Qb (Qb (Qb (Qb (Qb ?_))))))))
   refine Qw (fun v9 _ => ?_)
   refine Qw (fun v10 hv10 => ?_)
   refine bindC_lk (v := v9) rfl (fun hst11 => ?_)
   refine Qj ?_
   obtain ⟨b10, rfl, hge10, hb10, hcb10⟩ := hv10
   have hlt10 := hb10.lt
   obtain ⟨b9, rfl, hge9, hb9, hcb9⟩ := hst11
   have hne910 : b9 ≠ b10 := fun e => by rw [e, hcb10] at hcb9; cases hcb9
   have hlt9 := hb9.lt
   refine QX (v := .agg _) rfl sizeOf121 rfl rfl hb10 rfl rfl rfl ?_
   intro w104 c105 hb10
   change Box _ _ _ (encCo _) at hb10
   have z106 := Bel.size c105
   replace hX := Bel.out hX c105 om2
   replace hXL23 := Bel.out hXL23 c105 om2
   replace hb2 := hb2.keep c105 om1
   replace hb9 := hb9.keep c105 om1
   refine Qd (Qe ?_)
   apply W_draw (β := False) [peq _, peq _, peq _, peq _, peq _, peq _, peq _, peq _, peq _, peq _, peq _, peq _, peq _, peq _, peq _, peq _, peq _, peq _, peq _, peq _, peq _, peq _, peq _, peq _, peq _, peq _] 26 Q9 (by kernel_rfl) rfl ⟨Qf _, Qf _, Qf _, Qf _, Qf _, Qf _, Qf _, Qf _, Qf _, Qf _, Qf _, Qf _, Qf _, Qf _, Qf _, Qf _, Qf _, Qf _, Qf _, Qf _, Qf _, Qf _, Qf _, Qf _, Qf _, Qf _, trivial⟩ ?ob14 ?fin14
   case ob14 =>
    refine Qh (fun w107 x108 => ?_) ?_
    ·have z109 := x108.size
     have hb9 := hb9.ext x108
     refine Qg ?_
     exact Qt rfl (QO isAgg121 sizeOf121 rfl hb9.at rfl)
    refine Qh (fun w110 x111 => ?_) ?_
    ·have z112 := x111.size
     refine Qa (Qg ?_)
     exact OpS_call rfl (QA call95 rfl) (ckey_ok (False) (l2.getD (i - 1) coz) _)
    refine Qh (fun w113 x114 => ?_) ?_
    ·have z115 := x114.size
     have hb10 := hb10.ext x114
     refine Qg ?_
     exact Qt rfl (QO isAgg121 sizeOf121 rfl hb10.at rfl)
    refine Qh (fun w116 x117 => ?_) ?_
    ·have z118 := x117.size
     refine Qa (Qa (Qg ?_))
     exact OpS_call rfl (QA call95 rfl) (ckey_ok (False) (l2.getD i coz) _)
    refine Qh (fun w119 x120 => ?_) ?_
    ·have z121 := x120.size
     refine Qa (Qa (Qg ?_))
     exact Qt rfl (o_teql eq_ck rfl rfl)
    refine Qh (fun w122 x123 => ?_) ?_
    ·have z124 := x123.size
     refine Qa (Qa (Qg ?_))
     exact Qt rfl (mvB rfl)
    refine Qh (fun w125 x126 => ?_) ?_
    ·have z127 := x126.size
     refine Qa (Qg ?_)
     exact QN 5 48 rfl rfl (fun hg => (Qx underlying121 rfl sizeOf4 rfl))
    refine Qh (fun w128 x129 => ?_) ?_
    ·have z130 := x129.size
     have hb9 := hb9.ext x129
     refine Qa (Qa (Qg ?_))
     exact QN 5 48 rfl rfl (fun hg => (Qn isAgg4 (QE (u := undef) hg) (hb9.at.get 0 rfl)))
    refine Qh (fun w131 x132 => ?_) ?_
    ·have z133 := x132.size
     refine Qa (Qa (Qa (Qg ?_)))
     exact QN 5 48 rfl rfl (fun hg => (Ql (v := .bool _) (QE (u := undef) hg)))
    refine Qh (fun w134 x135 => ?_) ?_
    ·have z136 := x135.size
     refine Qa (Qg ?_)
     exact QR 8 51 rfl rfl (fun hg => (Qx underlying121 rfl sizeOf4 rfl))
    refine Qh (fun w137 x138 => ?_) ?_
    ·have z139 := x138.size
     have hb10 := hb10.ext x138
     refine Qa (Qa (Qg ?_))
     exact QR 8 51 rfl rfl (fun hg => (Qn isAgg4 (QE (u := undef) hg) (hb10.at.get 0 rfl)))
    refine Qh (fun w140 x141 => ?_) ?_
    ·have z142 := x141.size
     refine Qa (Qa (Qg ?_))
     exact QR 8 51 rfl rfl (fun hg => (Q5 (QE (u := undef) hg)))
    refine Qh (fun w143 x144 => ?_) ?_
    ·have z145 := x144.size
     refine Qa (Qa (Qa (Qg ?_)))
     exact QN 5 48 rfl rfl (fun hg => (o_or (u := undef) (QE (u := undef) hg) (gand (u := undef) hg)))
    refine Qh (fun w146 x147 => ?_) ?_
    ·have z148 := x147.size
     refine Qa (Qa (Qa (Qg ?_)))
     exact QN 5 48 rfl rfl (fun hg => (Ql (v := .bool _) (QE (u := undef) hg)))
    refine Qh (fun w149 x150 => ?_) ?_
    ·have z151 := x150.size
     refine Qa (Qg ?_)
     exact QR 13 56 rfl rfl (fun hg => (Qx underlying121 rfl sizeOf117 rfl))
    refine Qh (fun w152 x153 => ?_) ?_
    ·have z154 := x153.size
     have hb9 := hb9.ext x153
     refine Qa (Qa (Qg ?_))
     exact QR 13 56 rfl rfl (fun hg => (Qn isAgg117 (QE (u := undef) hg) (hb9.at.get 1 rfl)))
    refine Qh (fun w155 x156 => ?_) ?_
    ·have z157 := x156.size
     refine Qa (Qa (Qg ?_))
     exact QR 13 56 rfl rfl (fun hg => (o_neq (QE (u := undef) hg) rfl))
    refine Qh (fun w158 x159 => ?_) ?_
    ·have z160 := x159.size
     refine Qa (Qa (Qa (Qg ?_)))
     exact QN 5 48 rfl rfl (fun hg => (o_or (u := undef) (QE (u := undef) hg) (gand (u := undef) hg)))
    refine Qh (fun w161 x162 => ?_) ?_
    ·have z163 := x162.size
     refine Qa (Qa (Qa (Qg ?_)))
     exact QN 5 48 rfl rfl (fun hg => (Ql (v := .bool _) (QE (u := undef) hg)))
    refine Qh (fun w164 x165 => ?_) ?_
    ·have z166 := x165.size
     refine Qa (Qg ?_)
     exact QR 18 61 rfl rfl (fun hg => (Qx underlying121 rfl sizeOf3 rfl))
    refine Qh (fun w167 x168 => ?_) ?_
    ·have z169 := x168.size
     have hb9 := hb9.ext x168
     refine Qa (Qa (Qg ?_))
     exact QR 18 61 rfl rfl (fun hg => (Qn isAgg3 (QE (u := undef) hg) (hb9.at.get 4 rfl)))
    refine Qh (fun w170 x171 => ?_) ?_
    ·have z172 := x171.size
     refine Qa (Qg ?_)
     exact QR 18 61 rfl rfl (fun hg => (Qx underlying121 rfl sizeOf3 rfl))
    refine Qh (fun w173 x174 => ?_) ?_
    ·have z175 := x174.size
     have hb10 := hb10.ext x174
     refine Qa (Qa (Qg ?_))
     exact QR 18 61 rfl rfl (fun hg => (Qn isAgg3 (QE (u := undef) hg) (hb10.at.get 4 rfl)))
    refine Qh (fun w176 x177 => ?_) ?_
    ·have z178 := x177.size
     refine Qa (Qa (Qa (Qg ?_)))
     exact QR 18 61 rfl rfl (fun hg => (Q0 (QE (u := undef) hg) (QE (u := undef) hg)))
    refine Qh (fun w179 x180 => ?_) ?_
    ·have z181 := x180.size
     refine Qa (Qa (Qa (Qg ?_)))
     exact QN 5 48 rfl rfl (fun hg => (o_or (u := undef) (QE (u := undef) hg) (gand (u := undef) hg)))
    refine Qh (fun w182 x183 => ?_) ?_
    ·have z184 := x183.size
     refine Qa (Qa (Qg ?_))
     exact Qt rfl (o_and (u := undef) rfl rfl)
    exact Q7
   case fin14 =>
    intro w185 x186
    have z187 := x186.size
    replace hX := hX.ex x186
    replace hXL23 := Bel.ex hXL23 x186
    replace hb2 := hb2.ext x186
    refine Qa (Qa (Qa (Qa (Qa (Qa (Qa (Qa (Qa ?_))))))))
    refine Qa (Qa (Qa (Qa (Qa (Qa (Qa (Qa (Qa ?_))))))))
    refine Qa (Qa (Qa (Qa (Qa (Qa (Qa (Qa (Qg ?_))))))))
    refine Qd ?_
    refine QD rfl (fun hc4 => ?_) (fun hc4 => ?_)
    ·have hadj : adjB (l2.getD (i - 1) coz) (l2.getD i coz) = true := hc4
     refine Qe (Qc ?_)
     refine Rr (QZ (cells := wsS none 0 0) (vs := []) rfl (by kernel_rfl)) ?_
     refine QX (v := .agg _) rfl sizeOf62 rfl rfl hb2 rfl rfl rfl ?_
     intro w188 c189 hb2
     change Box _ _ _ (wsS _ _ _) at hb2
     have z190 := Bel.size c189
     replace hX := Bel.out hX c189 om2
     replace hXL23 := Bel.out hXL23 c189 om2
     refine Rr Qm ?_
     refine Qd (Qy ?_)
     refine ⟨_, res_T (vs := [.agg _, .int _ _]) rfl ⟨rv_cellS isAgg62 sizeOf62 rfl hb2.at rfl, rfl, trivial⟩ (by simp), ?_⟩
     have hcf : ¬ CF l := fun h => by
      have h1 := cf_adj (i := i - 1) (fun x hx => (hv x (hpm.mem_iff.1 hx)).wo) hpw (h.perm hpm.symm) (by omega)
      rw [show i - 1 + 1 = i by omega, hadj] at h1
      cases h1
     have e0 : ofO l = ([], 12) := by rw [ofO, if_neg (by rw [errO_none.2 fun o ho => (hv o ho).chk]; simp), if_neg hcf]
     rw [e0]
     exact ⟨⟨none, 0, rfl, Sl.none⟩, hX⟩
    have hadj : adjB (l2.getD (i - 1) coz) (l2.getD i coz) = false := hc4
    refine Qu (Qc ?_)
    refine Rr (mvI rfl) ?_
    refine Rr (Q6 rfl rfl omg) ?_
    refine Rr (asI rfl) ?_
    refine Qd ?_
    refine ⟨i + 1, ⟨sT, trivial⟩, oT, ⟨?_, hXL23, ?_⟩, ?_⟩
    ·exact ⟨by omega, fun j hj => (Nat.lt_succ_iff_lt_or_eq.1 hj).elim (hadjs j) (fun e => by obtain rfl : j = i - 1 := (by omega); rw [show i - 1 + 1 = i by omega]; exact hadj)⟩
    ·exact hb2
    ·omega
 replace hc3 := dcF hc3
 refine QS (QL (Qe (Qc ?_)))
 refine Rr (Ql (v := .slice a25 l2.length c25) rfl) ?_
 refine Rr (QZ (cells := wsS a25 l2.length c25) (vs := [(0, .slice _ _ _)]) rfl (by kernel_rfl)) ?_
 refine QX (v := .agg _) rfl sizeOf62 rfl rfl hb2 rfl rfl rfl ?_
 intro w191 c192 hb2
 change Box _ _ _ (wsS _ _ _) at hb2
 have z193 := Bel.size c192
 replace hX := Bel.out hX c192 om2
 replace hown25 := hown25.keepD c192 om3
 refine Rr Qm ?_
 refine Qd (Qy ?_)
 refine ⟨_, res_T (vs := [.agg _, .int _ _]) rfl ⟨rv_cellS isAgg62 sizeOf62 rfl hb2.at rfl, rfl, trivial⟩ (by simp), ?_⟩
 have hcf : CF l := (adj_cf (fun x hx => (hv x (hpm.mem_iff.1 hx)).wo) hpw (fun j hj => hadjs j (by omega))).perm hpm
 have e0 : ofO l = (l2, 0) := by rw [of_good hv hcf, ← sort_unique (fun x hx => (hv x hx).wo) hcf hpm hpw]
 rw [e0]
 exact ⟨⟨a25, c25, rfl, (hown25.slA encCo_ok).mono (fun g h1 h2 => ⟨by omega, by omega⟩)⟩, hX⟩

theorem cops_ok (a : Option Addr) (c : Nat) (G : Nat → Prop) (X : List COp) (w : World) (hs : Sl encCo 8 G w a c X) (hn : X.length ≤ 100000) : Ok Tryz.prog 19 #[.agg #[.slice a X.length c]] w fun v w' => Own encCo 8 121 (Fsh w w') w' v X ∧ Ext False w w' := by
 have hlen := hs.len
 replace hs := hs.mono (F' := fun g => G g ∧ g < w.heap.size) (fun g h1 h2 => ⟨h2, h1⟩)
 refine Qz 6 func19 rfl rfl rfl ?_
 have hX := xRf w
 refine Qe (Qc ?_)
 refine QJ rfl (Q4 (v := .agg _) rfl) ?_
 intro b1 w1 x2 hge1 hb1
 have hlt1 := hb1.lt
 change Box _ _ _ (wsS _ _ _) at hb1
 have z3 := x2.size
 replace hX := hX.ex x2
 replace hs := hs.ext x2
 refine Rr Qm ?_
 refine Qd (Qe (Qc ?_))
 refine Rr (Qx underlying62 rfl sizeOf60 rfl) ?_
 refine Rr (Qn isAgg60 rfl (hb1.at.get 0 rfl)) ?_
 refine Qo rfl (QA call58 rfl) (Ok.mono (cclone_ok _ _ X hs.trd hn) ?_)
 rintro v5 w4 ⟨hown5, x5⟩
 have z6 := x5.size
 replace hX := hX.ex x5
 replace hown5 := hown5.mono (D' := fun g => w.heap.size ≤ g) (fun g h1 h2 => by omega)
 refine Rr (Qv (v := v5) rfl) ?_
 refine Qd (Qy ?_)
 refine ⟨_, Qp rfl rfl, ?_⟩
 exact ⟨hown5.mono (fun g h1 h2 => by omega), hX⟩

