/- Walks: what functions return. -/
import Derived.Test.YtdnkjdmfnmdpdaaGreatDoorWset5
import Derived.Test.YtdnkjdmfnmdpdaaGreatDoorSu
import Derived.Test.YtdnkjdmfnmdpdaaGreatDoorRe
import Derived.Test.YtdnkjdmfnmdpdaaGreatDoorWtext
import Derived.Test.YtdnkjdmfnmdpdaaGreatDoorShelf
set_option linter.unusedVariables false
set_option linter.unusedSimpArgs false
set_option linter.unnecessarySimpa false
namespace Go.Proofs.YtdnkjdmfnmdpdaaGreatDoor
open Go Go.Lx Go.RowKit Tryz
set_option maxRecDepth 100000
theorem itoaS_ok (β : Prop) (i : Nat) (hi : i < 100) (w : World) : Ok Tryz.prog 125 #[.int .i64 (i : Int)] w fun v w' => v = str (Lib.decDigits i) ∧ Ext β w w' :=
 Calls.mono (Tryz.internal_strconv_Itoa_small i hi w) fun e w' ⟨h1, h2⟩ => ⟨_, h1, rfl, by rw [h2]; exact Bel.refl _ _⟩
theorem itoas_ok (i : Nat) (hi : i < 100) (w : World) : Ok Tryz.prog 84 #[.int .i64 (i : Int)] w fun v w' => v = str (Lib.decDigits i) ∧ Ext False w w' := by
 refine ZQ 5 func84 rfl rfl rfl ?_
 have hX := xRf w
 refine QH (Qc ?_)
 refine Rr Zi ?_
 refine Qg (QH (Qc ?_))
 refine Rr (mvI rfl) ?_
 refine ZC rfl (ZK call125 rfl) (Ok.mono (itoaS_ok False i hi _) ?_)
 rintro _ w1 ⟨rfl, x2⟩
 replace hX := hX.ex x2
 refine Rr (ZD (v := str _) rfl) ?_
 refine Qg (ZJ ?_)
 refine ⟨_, ZF rfl rfl, ?_⟩
 refine ⟨congrArg str ?_, hX⟩
 all_goals (rfl)

theorem itoan_ok (n : Int) (h0 : 0 ≤ n) (h1 : n < 100) (w : World) : Ok Tryz.prog 84 #[.int .i64 n] w fun v w' => v = str (dig n) ∧ Ext False w w' := by
 obtain ⟨i, rfl⟩ := Int.eq_ofNat_of_zero_le h0
 exact itoas_ok i (by omega) w
set_option maxHeartbeats 2000000 in
theorem ctextG_ok (a : Option Addr) (c : Nat) (G : Nat → Prop) (X : List COp) (w : World) (hs : Sl encCo 8 G w a c X) (hok : ∀ x ∈ X, x.p.ok) (N : Int) (hN : N ≤ 100000) (hr0 : ∀ x ∈ X, (0 ≤ x.a ∧ x.a < N) ∧ (0 ≤ x.b ∧ x.b < N) ∧ (0 ≤ x.u ∧ x.u < N)) (hn : X.length ≤ 100) (Tq : World → Prop) (hkp : ∀ w w', Tq w → Ext False w w' → Tq w') (hit : ∀ (n : Int) (w : World), 0 ≤ n → n < N → Tq w → Ok Tryz.prog 84 #[.int .i64 n] w fun v w' => v = str (dig n) ∧ Ext False w w') (hT : Tq w) : Ok Tryz.prog 33 #[.agg #[.slice a X.length c]] w fun v w' => v = str (txtO X dig textS X.length) ∧ Ext False w w' := by
 have hlen := hs.len
 replace hs := hs.mono (F' := fun g => G g ∧ g < w.heap.size) (fun g h1 h2 => ⟨h2, h1⟩)
 refine ZQ 74 func33 rfl rfl rfl ?_
 have hX := xRf w
 refine QH (Qc ?_)
 refine Z2 rfl (JB (v := .agg _) rfl) ?_
 intro b1 w1 x2 hge1 hb1
 change Box _ _ _ (wsS _ _ _) at hb1
 replace hX := hX.ex x2
 replace hs := hs.ext x2
 replace hT := hkp _ _ hT (Bel.weak x2)
 refine Rr Zi ?_
 refine Qg (QH (Qc ?_))
 refine Rr Zi ?_
 refine Rr o_assignf ?_
 refine Qg (QH (QH (Qc ?_)))
 refine Rr (ZN underlying63 rfl sizeOf61 rfl) ?_
 refine Rr (ZB isAgg61 rfl (hb1.at.get 0 rfl)) ?_
 refine Rr (Z0 underlying61 rfl) ?_
 refine Rr Jj ?_
 refine Qg (ZM ?_)
 refine Jk (α := Nat) [(3, 3), (6, 6), (10, 72)] (fun k => [(10, .int .i64 (k : Int)), (3, str (txtO X dig textS k))]) (fun k w' => (k ≤ X.length ∧ (txtO X dig textS k).length ≤ k * 3000000) ∧ Ext False w1 w') (fun k => X.length - k) 0 ⟨rfl, rfl, trivial⟩ ⟨⟨Nat.zero_le _, Nat.zero_le _⟩, Bel.refl _ _⟩ ?_
 rintro k fb5 w4 ⟨⟨hk, hOl⟩, hXL3⟩
 replace hX := hX.ex hXL3
 replace hs := hs.ext hXL3
 replace hT := hkp _ _ hT (Bel.weak hXL3)
 refine QH (Qc ?_)
 refine Rr (Z5 rfl rfl) ?_
 refine Qg (QH ?_)
 refine ZG rfl (fun hc1 => ?_) (fun hc1 => ?_)
 ·replace hc1 := dcT hc1
  refine ZH (QH (ZM (QH (Qc ?_))))
  refine Rr (Js underlying61 sizeOf50 hs rfl rfl omg) ?_
  refine Rr (Jx isAgg50 sizeOf50 hs rfl (Jw coz (by omega))) ?_
  refine Z8 rfl rfl zeroValue50 rfl sizeOf50 (fun _ => rfl) rfl rfl ?_
  intro b6 w6 x7 hge6 hb6
  change Box _ _ _ (encCo _) at hb6
  replace hX := hX.ex x7
  replace hXL3 := Bel.ex hXL3 x7
  replace hT := hkp _ _ hT (Bel.weak x7)
  refine Qg (QH (QH (Qc ?_)))
  obtain ⟨o, ho⟩ : ∃ o, o = (X.getD k coz) := ⟨_, rfl⟩
  rw [← ho] at hb6
  have hmem : o ∈ X := ho ▸ gm (show k < X.length by omega)
  have hop := hok o hmem
  have hr := hr0 o hmem
  have hl1 := dig_len5 (Int.lt_of_lt_of_le hr.1.2 hN); have hl2 := dig_len5 (Int.lt_of_lt_of_le hr.2.1.2 hN); have hl3 := dig_len5 (Int.lt_of_lt_of_le hr.2.2.2 hN)
  have hl4 := textS_len o.p; have hop1 := hop.1; have hop2 := hop.2
  refine Rr (ZN underlying50 rfl sizeOf4 rfl) ?_
  refine Rr (ZB isAgg4 rfl (hb6.at.get 0 rfl)) ?_
  refine Qg ?_
  refine ZG rfl (fun hc2 => ?_) (fun hc2 => ?_)
  ·have hadd : o.add = true := hc2
   refine Qc ?_
   refine Rr (Zt (v := str _) rfl) ?_
   refine Rr (Z3 rfl rfl omg) ?_
   refine Rr (ZD (v := str _) rfl) ?_
   refine Qg (QH (QH (Qc ?_)))
   refine Rr (ZN underlying50 rfl sizeOf47 rfl) ?_
   refine Rr (ZB isAgg47 rfl (hb6.at.get 1 rfl)) ?_
   refine Qg (ZM (QH (Qc ?_)))
   refine Rr (ZZ rfl rfl) ?_
   refine Rr (asB rfl) ?_
   refine Qg ?_
   refine ZG rfl (fun hc3 => ?_) (fun hc3 => ?_)
   ·have hk1 : o.k = 1 := eq_of_beq hc3
    apply JA (β := False) (fun _ => 0) [peqC _, peqC _, peqC _, peqC _, peqC _, peqC _, peqC _, peqC _, peqC _, peqC _, peqC _, peqC _, peqC _, peqC _, peqC _, peqC _, peqC _, peqC _, peqC _] [0, 0, 0, 0, 0, 0, 0, 0, 0, 0, 0, 0, 0, 0, 0, 0, 0, 0, 0] 19 Jz (by kernel_rfl) (by kernel_rfl) rfl ⟨Q4 _ _, Q4 _ _, Q4 _ _, Q4 _ _, Q4 _ _, Q4 _ _, Q4 _ _, Q4 _ _, Q4 _ _, Q4 _ _, Q4 _ _, Q4 _ _, Q4 _ _, Q4 _ _, Q4 _ _, Q4 _ _, Q4 _ _, Q4 _ _, Q4 _ _, trivial⟩ ?ob11 ?fin11
    case ob11 =>
     refine Zb (fun w8 c10 x9 hc011 hk12 => ?_) ?_
     ·replace x9 := RelG.ext0 x9
      have hT := hkp _ _ hT (Bel.weak x9)
      refine QU ?_
      exact ZL rfl (Zt (v := str _) rfl)
     refine Zb (fun w13 c15 x14 hc016 hk17 => ?_) ?_
     ·replace x14 := RelG.ext0 x14
      have hT := hkp _ _ hT (Bel.weak x14)
      refine QU ?_
      exact ZL rfl (Zt (v := .func _ _ _) rfl)
     refine Zb (fun w18 c20 x19 hc021 hk22 => ?_) ?_
     ·replace x19 := RelG.ext0 x19
      have hT := hkp _ _ hT (Bel.weak x19)
      refine QU ?_
      exact ZL rfl (ZN underlying50 rfl sizeOf3 rfl)
     refine Zb (fun w23 c25 x24 hc026 hk27 => ?_) ?_
     ·replace x24 := RelG.ext0 x24
      have hT := hkp _ _ hT (Bel.weak x24)
      have hb6 := hb6.ext x24
      refine Qk (QU ?_)
      exact ZL rfl (ZB isAgg3 rfl (hb6.at.get 2 rfl))
     refine Zb (fun w28 c30 x29 hc031 hk32 => ?_) ?_
     ·replace x29 := RelG.ext0 x29
      have hT := hkp _ _ hT (Bel.weak x29)
      refine Qk (Qk (QU ?_))
      exact Jn rfl (o_clo1 call84 rfl rfl) (hit o.a _ hr.1.1 hr.1.2 hT)
     refine Zb (fun w33 c35 x34 hc036 hk37 => ?_) ?_
     ·replace x34 := RelG.ext0 x34
      have hT := hkp _ _ hT (Bel.weak x34)
      refine Qk (QU ?_)
      exact ZL rfl (Z3 rfl rfl omg)
     refine Zb (fun w38 c40 x39 hc041 hk42 => ?_) ?_
     ·replace x39 := RelG.ext0 x39
      have hT := hkp _ _ hT (Bel.weak x39)
      refine Qk (QU ?_)
      exact ZL rfl (Z3 rfl rfl omg)
     refine Zb (fun w43 c45 x44 hc046 hk47 => ?_) ?_
     ·replace x44 := RelG.ext0 x44
      have hT := hkp _ _ hT (Bel.weak x44)
      refine QU ?_
      exact ZL rfl (Zt (v := .func _ _ _) rfl)
     refine Zb (fun w48 c50 x49 hc051 hk52 => ?_) ?_
     ·replace x49 := RelG.ext0 x49
      have hT := hkp _ _ hT (Bel.weak x49)
      refine QU ?_
      exact ZL rfl (ZN underlying50 rfl sizeOf3 rfl)
     refine Zb (fun w53 c55 x54 hc056 hk57 => ?_) ?_
     ·replace x54 := RelG.ext0 x54
      have hT := hkp _ _ hT (Bel.weak x54)
      have hb6 := hb6.ext x54
      refine Qk (QU ?_)
      exact ZL rfl (ZB isAgg3 rfl (hb6.at.get 3 rfl))
     refine Zb (fun w58 c60 x59 hc061 hk62 => ?_) ?_
     ·replace x59 := RelG.ext0 x59
      have hT := hkp _ _ hT (Bel.weak x59)
      refine Qk (Qk (Qk (QU ?_)))
      exact Jn rfl (o_clo1 call84 rfl rfl) (hit o.b _ hr.2.1.1 hr.2.1.2 hT)
     refine Zb (fun w63 c65 x64 hc066 hk67 => ?_) ?_
     ·replace x64 := RelG.ext0 x64
      have hT := hkp _ _ hT (Bel.weak x64)
      refine Qk (Qk (QU ?_))
      exact ZL rfl (Z3 rfl rfl omg)
     refine Zb (fun w68 c70 x69 hc071 hk72 => ?_) ?_
     ·replace x69 := RelG.ext0 x69
      have hT := hkp _ _ hT (Bel.weak x69)
      refine Qk (QU ?_)
      exact ZL rfl (Z3 rfl rfl omg)
     refine Zb (fun w73 c75 x74 hc076 hk77 => ?_) ?_
     ·replace x74 := RelG.ext0 x74
      have hT := hkp _ _ hT (Bel.weak x74)
      refine QU ?_
      exact ZL rfl (Zt (v := .func _ _ _) rfl)
     refine Zb (fun w78 c80 x79 hc081 hk82 => ?_) ?_
     ·replace x79 := RelG.ext0 x79
      have hT := hkp _ _ hT (Bel.weak x79)
      refine QU ?_
      exact ZL rfl (ZN underlying50 rfl sizeOf3 rfl)
     refine Zb (fun w83 c85 x84 hc086 hk87 => ?_) ?_
     ·replace x84 := RelG.ext0 x84
      have hT := hkp _ _ hT (Bel.weak x84)
      have hb6 := hb6.ext x84
      refine Qk (QU ?_)
      exact ZL rfl (ZB isAgg3 rfl (hb6.at.get 4 rfl))
     refine Zb (fun w88 c90 x89 hc091 hk92 => ?_) ?_
     ·replace x89 := RelG.ext0 x89
      have hT := hkp _ _ hT (Bel.weak x89)
      refine Qk (Qk (Qk (QU ?_)))
      exact Jn rfl (o_clo1 call84 rfl rfl) (hit o.u _ hr.2.2.1 hr.2.2.2 hT)
     refine Zb (fun w93 c95 x94 hc096 hk97 => ?_) ?_
     ·replace x94 := RelG.ext0 x94
      have hT := hkp _ _ hT (Bel.weak x94)
      refine Qk (Qk (QU ?_))
      exact ZL rfl (Z3 rfl rfl omg)
     refine Zb (fun w98 c100 x99 hc0101 hk102 => ?_) ?_
     ·replace x99 := RelG.ext0 x99
      have hT := hkp _ _ hT (Bel.weak x99)
      refine Qk (Qk (QU ?_))
      exact ZL rfl (Z3 rfl rfl omg)
     exact Jv
    case fin11 =>
     intro w103 c105 x104 hc0106
     replace x104 := RelG.ext0 x104
     replace hX := hX.ex x104
     replace hXL3 := Bel.ex hXL3 x104
     replace hT := hkp _ _ hT (Bel.weak x104)
     refine Qk (Qk (Qk (Qk (Qk (Qk (Qk (Qk (Qk ?_))))))))
     refine Qk (Qk (Qk (Qk (Qk (Qk (Qk (Qk (Qk ?_))))))))
     refine Qk (QU ?_)
     refine Rr (ZD (v := str _) rfl) ?_
     refine Qg (Qc ?_)
     refine Rr (Zt (v := str _) rfl) ?_
     refine Rr (Z3 rfl rfl omg) ?_
     refine Rr (ZD (v := str _) rfl) ?_
     refine Qg (Qc ?_)
     refine Rr (Z1 rfl rfl omg) ?_
     refine Rr (mvI rfl) ?_
     refine Qg ?_
     refine ⟨k + 1, ⟨sT, ?_, trivial⟩, oT, ⟨?_, hXL3⟩, ?_⟩
     ·show str _ = str _
      rw [JE (by omega), ← ho]
      unfold lineO
      rw [if_pos hadd, if_pos hk1]
      simp [List.append_assoc]
     ·refine ⟨by omega, ?_⟩
      rw [JE (by omega), ← ho, List.length_append]
      have : (lineO o dig textS).length ≤ 3000000 := Yc hl1 hl2 hl3 (by omega)
      omega
     ·omega
   have hk1 : ¬ o.k = 1 := ne_of_beq_false hc3
   refine QH (Qc ?_)
   refine Rr (ZZ rfl rfl) ?_
   refine Rr (asB rfl) ?_
   refine Qg ?_
   refine ZG rfl (fun hc4 => ?_) (fun hc4 => ?_)
   ·have hk2 : o.k = 2 := eq_of_beq hc4
    apply JA (β := False) (fun _ => 0) [peqC _, peqC _, peqC _, peqC _, peqC _, peqC _, peqC _, peqC _, peqC _, peqC _, peqC _, peqC _] [0, 0, 0, 0, 0, 0, 0, 0, 0, 0, 0, 0] 12 Jz (by kernel_rfl) (by kernel_rfl) rfl ⟨Q4 _ _, Q4 _ _, Q4 _ _, Q4 _ _, Q4 _ _, Q4 _ _, Q4 _ _, Q4 _ _, Q4 _ _, Q4 _ _, Q4 _ _, Q4 _ _, trivial⟩ ?ob13 ?fin13
    case ob13 =>
     refine Zb (fun w107 c109 x108 hc0110 hk111 => ?_) ?_
     ·replace x108 := RelG.ext0 x108
      have hT := hkp _ _ hT (Bel.weak x108)
      refine QU ?_
      exact ZL rfl (Zt (v := str _) rfl)
     refine Zb (fun w112 c114 x113 hc0115 hk116 => ?_) ?_
     ·replace x113 := RelG.ext0 x113
      have hT := hkp _ _ hT (Bel.weak x113)
      refine QU ?_
      exact ZL rfl (Zt (v := .func _ _ _) rfl)
     refine Zb (fun w117 c119 x118 hc0120 hk121 => ?_) ?_
     ·replace x118 := RelG.ext0 x118
      have hT := hkp _ _ hT (Bel.weak x118)
      refine QU ?_
      exact ZL rfl (ZN underlying50 rfl sizeOf3 rfl)
     refine Zb (fun w122 c124 x123 hc0125 hk126 => ?_) ?_
     ·replace x123 := RelG.ext0 x123
      have hT := hkp _ _ hT (Bel.weak x123)
      have hb6 := hb6.ext x123
      refine Qk (QU ?_)
      exact ZL rfl (ZB isAgg3 rfl (hb6.at.get 2 rfl))
     refine Zb (fun w127 c129 x128 hc0130 hk131 => ?_) ?_
     ·replace x128 := RelG.ext0 x128
      have hT := hkp _ _ hT (Bel.weak x128)
      refine Qk (Qk (QU ?_))
      exact Jn rfl (o_clo1 call84 rfl rfl) (hit o.a _ hr.1.1 hr.1.2 hT)
     refine Zb (fun w132 c134 x133 hc0135 hk136 => ?_) ?_
     ·replace x133 := RelG.ext0 x133
      have hT := hkp _ _ hT (Bel.weak x133)
      refine Qk (QU ?_)
      exact ZL rfl (Z3 rfl rfl omg)
     refine Zb (fun w137 c139 x138 hc0140 hk141 => ?_) ?_
     ·replace x138 := RelG.ext0 x138
      have hT := hkp _ _ hT (Bel.weak x138)
      refine Qk (QU ?_)
      exact ZL rfl (Z3 rfl rfl omg)
     refine Zb (fun w142 c144 x143 hc0145 hk146 => ?_) ?_
     ·replace x143 := RelG.ext0 x143
      have hT := hkp _ _ hT (Bel.weak x143)
      refine QU ?_
      exact ZL rfl (ZN underlying50 rfl sizeOf48 rfl)
     refine Zb (fun w147 c149 x148 hc0150 hk151 => ?_) ?_
     ·replace x148 := RelG.ext0 x148
      have hT := hkp _ _ hT (Bel.weak x148)
      have hb6 := hb6.ext x148
      refine Qk (QU ?_)
      exact ZL rfl (ZO isAgg48 sizeOf48 rfl (hb6.at.sub 5 3) rfl)
     refine Zb (fun w152 c154 x153 hc0155 hk156 => ?_) ?_
     ·replace x153 := RelG.ext0 x153
      have hT := hkp _ _ hT (Bel.weak x153)
      refine Qk (Qk (QU ?_))
      exact Jn rfl (ZK call85 rfl) (ptext_ok (False) _ o.p hop)
     refine Zb (fun w157 c159 x158 hc0160 hk161 => ?_) ?_
     ·replace x158 := RelG.ext0 x158
      have hT := hkp _ _ hT (Bel.weak x158)
      refine Qk (Qk (QU ?_))
      exact ZL rfl (Z3 rfl rfl omg)
     refine Zb (fun w162 c164 x163 hc0165 hk166 => ?_) ?_
     ·replace x163 := RelG.ext0 x163
      have hT := hkp _ _ hT (Bel.weak x163)
      refine Qk (Qk (QU ?_))
      exact ZL rfl (Z3 rfl rfl omg)
     exact Jv
    case fin13 =>
     intro w167 c169 x168 hc0170
     replace x168 := RelG.ext0 x168
     replace hX := hX.ex x168
     replace hXL3 := Bel.ex hXL3 x168
     replace hT := hkp _ _ hT (Bel.weak x168)
     refine Qk (Qk (Qk (Qk (Qk (Qk (Qk (Qk (Qk ?_))))))))
     refine Qk (Qk (Qk (QU ?_)))
     refine Rr (ZD (v := str _) rfl) ?_
     refine Qg (Qc ?_)
     refine Rr (Zt (v := str _) rfl) ?_
     refine Rr (Z3 rfl rfl omg) ?_
     refine Rr (ZD (v := str _) rfl) ?_
     refine Qg (Qc ?_)
     refine Rr (Z1 rfl rfl omg) ?_
     refine Rr (mvI rfl) ?_
     refine Qg ?_
     refine ⟨k + 1, ⟨sT, ?_, trivial⟩, oT, ⟨?_, hXL3⟩, ?_⟩
     ·show str _ = str _
      rw [JE (by omega), ← ho]
      unfold lineO
      rw [if_pos hadd, if_neg hk1, if_pos hk2]
      simp [List.append_assoc]
     ·refine ⟨by omega, ?_⟩
      rw [JE (by omega), ← ho, List.length_append]
      have : (lineO o dig textS).length ≤ 3000000 := Yc hl1 hl2 hl3 (by omega)
      omega
     ·omega
   have hk2 : ¬ o.k = 2 := ne_of_beq_false hc4
   apply JA (β := False) (fun _ => 0) [peqC _, peqC _, peqC _, peqC _, peqC _, peqC _, peqC _, peqC _, peqC _, peqC _, peqC _, peqC _, peqC _] [0, 0, 0, 0, 0, 0, 0, 0, 0, 0, 0, 0, 0] 13 Jz (by kernel_rfl) (by kernel_rfl) rfl ⟨Q4 _ _, Q4 _ _, Q4 _ _, Q4 _ _, Q4 _ _, Q4 _ _, Q4 _ _, Q4 _ _, Q4 _ _, Q4 _ _, Q4 _ _, Q4 _ _, Q4 _ _, trivial⟩ ?ob9 ?fin9
   case ob9 =>
    refine Zb (fun w171 c173 x172 hc0174 hk175 => ?_) ?_
    ·replace x172 := RelG.ext0 x172
     have hT := hkp _ _ hT (Bel.weak x172)
     refine QU ?_
     exact ZL rfl (Zt (v := str _) rfl)
    refine Zb (fun w176 c178 x177 hc0179 hk180 => ?_) ?_
    ·replace x177 := RelG.ext0 x177
     have hT := hkp _ _ hT (Bel.weak x177)
     refine QU ?_
     exact ZL rfl (Zt (v := .func _ _ _) rfl)
    refine Zb (fun w181 c183 x182 hc0184 hk185 => ?_) ?_
    ·replace x182 := RelG.ext0 x182
     have hT := hkp _ _ hT (Bel.weak x182)
     refine QU ?_
     exact ZL rfl (ZN underlying50 rfl sizeOf3 rfl)
    refine Zb (fun w186 c188 x187 hc0189 hk190 => ?_) ?_
    ·replace x187 := RelG.ext0 x187
     have hT := hkp _ _ hT (Bel.weak x187)
     have hb6 := hb6.ext x187
     refine Qk (QU ?_)
     exact ZL rfl (ZB isAgg3 rfl (hb6.at.get 2 rfl))
    refine Zb (fun w191 c193 x192 hc0194 hk195 => ?_) ?_
    ·replace x192 := RelG.ext0 x192
     have hT := hkp _ _ hT (Bel.weak x192)
     refine Qk (Qk (QU ?_))
     exact Jn rfl (o_clo1 call84 rfl rfl) (hit o.a _ hr.1.1 hr.1.2 hT)
    refine Zb (fun w196 c198 x197 hc0199 hk200 => ?_) ?_
    ·replace x197 := RelG.ext0 x197
     have hT := hkp _ _ hT (Bel.weak x197)
     refine Qk (QU ?_)
     exact ZL rfl (Z3 rfl rfl omg)
    refine Zb (fun w201 c203 x202 hc0204 hk205 => ?_) ?_
    ·replace x202 := RelG.ext0 x202
     have hT := hkp _ _ hT (Bel.weak x202)
     refine Qk (QU ?_)
     exact ZL rfl (Z3 rfl rfl omg)
    refine Zb (fun w206 c208 x207 hc0209 hk210 => ?_) ?_
    ·replace x207 := RelG.ext0 x207
     have hT := hkp _ _ hT (Bel.weak x207)
     refine QU ?_
     exact ZL rfl (Zt (v := .func _ _ _) rfl)
    refine Zb (fun w211 c213 x212 hc0214 hk215 => ?_) ?_
    ·replace x212 := RelG.ext0 x212
     have hT := hkp _ _ hT (Bel.weak x212)
     refine QU ?_
     exact ZL rfl (ZN underlying50 rfl sizeOf3 rfl)
    refine Zb (fun w216 c218 x217 hc0219 hk220 => ?_) ?_
    ·replace x217 := RelG.ext0 x217
     have hT := hkp _ _ hT (Bel.weak x217)
     have hb6 := hb6.ext x217
     refine Qk (QU ?_)
     exact ZL rfl (ZB isAgg3 rfl (hb6.at.get 3 rfl))
    refine Zb (fun w221 c223 x222 hc0224 hk225 => ?_) ?_
    ·replace x222 := RelG.ext0 x222
     have hT := hkp _ _ hT (Bel.weak x222)
     refine Qk (Qk (Qk (QU ?_)))
     exact Jn rfl (o_clo1 call84 rfl rfl) (hit o.b _ hr.2.1.1 hr.2.1.2 hT)
    refine Zb (fun w226 c228 x227 hc0229 hk230 => ?_) ?_
    ·replace x227 := RelG.ext0 x227
     have hT := hkp _ _ hT (Bel.weak x227)
     refine Qk (Qk (QU ?_))
     exact ZL rfl (Z3 rfl rfl omg)
    refine Zb (fun w231 c233 x232 hc0234 hk235 => ?_) ?_
    ·replace x232 := RelG.ext0 x232
     have hT := hkp _ _ hT (Bel.weak x232)
     refine Qk (Qk (QU ?_))
     exact ZL rfl (Z3 rfl rfl omg)
    exact Jv
   case fin9 =>
    intro w236 c238 x237 hc0239
    replace x237 := RelG.ext0 x237
    replace hX := hX.ex x237
    replace hXL3 := Bel.ex hXL3 x237
    replace hT := hkp _ _ hT (Bel.weak x237)
    refine Qk (Qk (Qk (Qk (Qk (Qk (Qk (Qk (Qk ?_))))))))
    refine Qk (Qk (Qk (Qk (QU ?_))))
    refine Rr (ZD (v := str _) rfl) ?_
    refine Qg (Qc ?_)
    refine Rr (Zt (v := str _) rfl) ?_
    refine Rr (Z3 rfl rfl omg) ?_
    refine Rr (ZD (v := str _) rfl) ?_
    refine Qg (Qc ?_)
    refine Rr (Z1 rfl rfl omg) ?_
    refine Rr (mvI rfl) ?_
    refine Qg ?_
    refine ⟨k + 1, ⟨sT, ?_, trivial⟩, oT, ⟨?_, hXL3⟩, ?_⟩
    ·show str _ = str _
     rw [JE (by omega), ← ho]
     unfold lineO
     rw [if_pos hadd, if_neg hk1, if_neg hk2]
     simp [List.append_assoc]
    ·refine ⟨by omega, ?_⟩
     rw [JE (by omega), ← ho, List.length_append]
     have : (lineO o dig textS).length ≤ 3000000 := Yc hl1 hl2 hl3 (by omega)
     omega
    ·omega
  have hadd : o.add = false := hc2
  refine Qc ?_
  refine Rr (Zt (v := str _) rfl) ?_
  refine Rr (Z3 rfl rfl omg) ?_
  refine Rr (ZD (v := str _) rfl) ?_
  refine Qg (QH (QH (Qc ?_)))
  refine Rr (ZN underlying50 rfl sizeOf47 rfl) ?_
  refine Rr (ZB isAgg47 rfl (hb6.at.get 1 rfl)) ?_
  refine Qg (ZM (QH (Qc ?_)))
  refine Rr (ZZ rfl rfl) ?_
  refine Rr (asB rfl) ?_
  refine Qg ?_
  refine ZG rfl (fun hc5 => ?_) (fun hc5 => ?_)
  ·have hk1 : o.k = 1 := eq_of_beq hc5
   apply JA (β := False) (fun _ => 0) [peqC _, peqC _, peqC _, peqC _, peqC _, peqC _, peqC _, peqC _, peqC _, peqC _, peqC _, peqC _, peqC _, peqC _, peqC _, peqC _, peqC _, peqC _, peqC _] [0, 0, 0, 0, 0, 0, 0, 0, 0, 0, 0, 0, 0, 0, 0, 0, 0, 0, 0] 19 Jz (by kernel_rfl) (by kernel_rfl) rfl ⟨Q4 _ _, Q4 _ _, Q4 _ _, Q4 _ _, Q4 _ _, Q4 _ _, Q4 _ _, Q4 _ _, Q4 _ _, Q4 _ _, Q4 _ _, Q4 _ _, Q4 _ _, Q4 _ _, Q4 _ _, Q4 _ _, Q4 _ _, Q4 _ _, Q4 _ _, trivial⟩ ?ob11 ?fin11
   case ob11 =>
    refine Zb (fun w240 c242 x241 hc0243 hk244 => ?_) ?_
    ·replace x241 := RelG.ext0 x241
     have hT := hkp _ _ hT (Bel.weak x241)
     refine QU ?_
     exact ZL rfl (Zt (v := str _) rfl)
    refine Zb (fun w245 c247 x246 hc0248 hk249 => ?_) ?_
    ·replace x246 := RelG.ext0 x246
     have hT := hkp _ _ hT (Bel.weak x246)
     refine QU ?_
     exact ZL rfl (Zt (v := .func _ _ _) rfl)
    refine Zb (fun w250 c252 x251 hc0253 hk254 => ?_) ?_
    ·replace x251 := RelG.ext0 x251
     have hT := hkp _ _ hT (Bel.weak x251)
     refine QU ?_
     exact ZL rfl (ZN underlying50 rfl sizeOf3 rfl)
    refine Zb (fun w255 c257 x256 hc0258 hk259 => ?_) ?_
    ·replace x256 := RelG.ext0 x256
     have hT := hkp _ _ hT (Bel.weak x256)
     have hb6 := hb6.ext x256
     refine Qk (QU ?_)
     exact ZL rfl (ZB isAgg3 rfl (hb6.at.get 2 rfl))
    refine Zb (fun w260 c262 x261 hc0263 hk264 => ?_) ?_
    ·replace x261 := RelG.ext0 x261
     have hT := hkp _ _ hT (Bel.weak x261)
     refine Qk (Qk (QU ?_))
     exact Jn rfl (o_clo1 call84 rfl rfl) (hit o.a _ hr.1.1 hr.1.2 hT)
    refine Zb (fun w265 c267 x266 hc0268 hk269 => ?_) ?_
    ·replace x266 := RelG.ext0 x266
     have hT := hkp _ _ hT (Bel.weak x266)
     refine Qk (QU ?_)
     exact ZL rfl (Z3 rfl rfl omg)
    refine Zb (fun w270 c272 x271 hc0273 hk274 => ?_) ?_
    ·replace x271 := RelG.ext0 x271
     have hT := hkp _ _ hT (Bel.weak x271)
     refine Qk (QU ?_)
     exact ZL rfl (Z3 rfl rfl omg)
    refine Zb (fun w275 c277 x276 hc0278 hk279 => ?_) ?_
    ·replace x276 := RelG.ext0 x276
     have hT := hkp _ _ hT (Bel.weak x276)
     refine QU ?_
     exact ZL rfl (Zt (v := .func _ _ _) rfl)
    refine Zb (fun w280 c282 x281 hc0283 hk284 => ?_) ?_
    ·replace x281 := RelG.ext0 x281
     have hT := hkp _ _ hT (Bel.weak x281)
     refine QU ?_
     exact ZL rfl (ZN underlying50 rfl sizeOf3 rfl)
    refine Zb (fun w285 c287 x286 hc0288 hk289 => ?_) ?_
    ·replace x286 := RelG.ext0 x286
     have hT := hkp _ _ hT (Bel.weak x286)
     have hb6 := hb6.ext x286
     refine Qk (QU ?_)
     exact ZL rfl (ZB isAgg3 rfl (hb6.at.get 3 rfl))
    refine Zb (fun w290 c292 x291 hc0293 hk294 => ?_) ?_
    ·replace x291 := RelG.ext0 x291
     have hT := hkp _ _ hT (Bel.weak x291)
     refine Qk (Qk (Qk (QU ?_)))
     exact Jn rfl (o_clo1 call84 rfl rfl) (hit o.b _ hr.2.1.1 hr.2.1.2 hT)
    refine Zb (fun w295 c297 x296 hc0298 hk299 => ?_) ?_
    ·replace x296 := RelG.ext0 x296
     have hT := hkp _ _ hT (Bel.weak x296)
     refine Qk (Qk (QU ?_))
     exact ZL rfl (Z3 rfl rfl omg)
    refine Zb (fun w300 c302 x301 hc0303 hk304 => ?_) ?_
    ·replace x301 := RelG.ext0 x301
     have hT := hkp _ _ hT (Bel.weak x301)
     refine Qk (QU ?_)
     exact ZL rfl (Z3 rfl rfl omg)
    refine Zb (fun w305 c307 x306 hc0308 hk309 => ?_) ?_
    ·replace x306 := RelG.ext0 x306
     have hT := hkp _ _ hT (Bel.weak x306)
     refine QU ?_
     exact ZL rfl (Zt (v := .func _ _ _) rfl)
    refine Zb (fun w310 c312 x311 hc0313 hk314 => ?_) ?_
    ·replace x311 := RelG.ext0 x311
     have hT := hkp _ _ hT (Bel.weak x311)
     refine QU ?_
     exact ZL rfl (ZN underlying50 rfl sizeOf3 rfl)
    refine Zb (fun w315 c317 x316 hc0318 hk319 => ?_) ?_
    ·replace x316 := RelG.ext0 x316
     have hT := hkp _ _ hT (Bel.weak x316)
     have hb6 := hb6.ext x316
     refine Qk (QU ?_)
     exact ZL rfl (ZB isAgg3 rfl (hb6.at.get 4 rfl))
    refine Zb (fun w320 c322 x321 hc0323 hk324 => ?_) ?_
    ·replace x321 := RelG.ext0 x321
     have hT := hkp _ _ hT (Bel.weak x321)
     refine Qk (Qk (Qk (QU ?_)))
     exact Jn rfl (o_clo1 call84 rfl rfl) (hit o.u _ hr.2.2.1 hr.2.2.2 hT)
    refine Zb (fun w325 c327 x326 hc0328 hk329 => ?_) ?_
    ·replace x326 := RelG.ext0 x326
     have hT := hkp _ _ hT (Bel.weak x326)
     refine Qk (Qk (QU ?_))
     exact ZL rfl (Z3 rfl rfl omg)
    refine Zb (fun w330 c332 x331 hc0333 hk334 => ?_) ?_
    ·replace x331 := RelG.ext0 x331
     have hT := hkp _ _ hT (Bel.weak x331)
     refine Qk (Qk (QU ?_))
     exact ZL rfl (Z3 rfl rfl omg)
    exact Jv
   case fin11 =>
    intro w335 c337 x336 hc0338
    replace x336 := RelG.ext0 x336
    replace hX := hX.ex x336
    replace hXL3 := Bel.ex hXL3 x336
    replace hT := hkp _ _ hT (Bel.weak x336)
    refine Qk (Qk (Qk (Qk (Qk (Qk (Qk (Qk (Qk ?_))))))))
    refine Qk (Qk (Qk (Qk (Qk (Qk (Qk (Qk (Qk ?_))))))))
    refine Qk (QU ?_)
    refine Rr (ZD (v := str _) rfl) ?_
    refine Qg (Qc ?_)
    refine Rr (Zt (v := str _) rfl) ?_
    refine Rr (Z3 rfl rfl omg) ?_
    refine Rr (ZD (v := str _) rfl) ?_
    refine Qg (Qc ?_)
    refine Rr (Z1 rfl rfl omg) ?_
    refine Rr (mvI rfl) ?_
    refine Qg ?_
    refine ⟨k + 1, ⟨sT, ?_, trivial⟩, oT, ⟨?_, hXL3⟩, ?_⟩
    ·show str _ = str _
     rw [JE (by omega), ← ho]
     unfold lineO
     rw [if_neg (by rw [hadd]; simp), if_pos hk1]
     simp [List.append_assoc]
    ·refine ⟨by omega, ?_⟩
     rw [JE (by omega), ← ho, List.length_append]
     have : (lineO o dig textS).length ≤ 3000000 := Yc hl1 hl2 hl3 (by omega)
     omega
    ·omega
  have hk1 : ¬ o.k = 1 := ne_of_beq_false hc5
  refine QH (Qc ?_)
  refine Rr (ZZ rfl rfl) ?_
  refine Rr (asB rfl) ?_
  refine Qg ?_
  refine ZG rfl (fun hc6 => ?_) (fun hc6 => ?_)
  ·have hk2 : o.k = 2 := eq_of_beq hc6
   apply JA (β := False) (fun _ => 0) [peqC _, peqC _, peqC _, peqC _, peqC _, peqC _, peqC _, peqC _, peqC _, peqC _, peqC _, peqC _] [0, 0, 0, 0, 0, 0, 0, 0, 0, 0, 0, 0] 12 Jz (by kernel_rfl) (by kernel_rfl) rfl ⟨Q4 _ _, Q4 _ _, Q4 _ _, Q4 _ _, Q4 _ _, Q4 _ _, Q4 _ _, Q4 _ _, Q4 _ _, Q4 _ _, Q4 _ _, Q4 _ _, trivial⟩ ?ob13 ?fin13
   case ob13 =>
    refine Zb (fun w339 c341 x340 hc0342 hk343 => ?_) ?_
    ·replace x340 := RelG.ext0 x340
     have hT := hkp _ _ hT (Bel.weak x340)
     refine QU ?_
     exact ZL rfl (Zt (v := str _) rfl)
    refine Zb (fun w344 c346 x345 hc0347 hk348 => ?_) ?_
    ·replace x345 := RelG.ext0 x345
     have hT := hkp _ _ hT (Bel.weak x345)
     refine QU ?_
     exact ZL rfl (Zt (v := .func _ _ _) rfl)
    refine Zb (fun w349 c351 x350 hc0352 hk353 => ?_) ?_
    ·replace x350 := RelG.ext0 x350
     have hT := hkp _ _ hT (Bel.weak x350)
     refine QU ?_
     exact ZL rfl (ZN underlying50 rfl sizeOf3 rfl)
    refine Zb (fun w354 c356 x355 hc0357 hk358 => ?_) ?_
    ·replace x355 := RelG.ext0 x355
     have hT := hkp _ _ hT (Bel.weak x355)
     have hb6 := hb6.ext x355
     refine Qk (QU ?_)
     exact ZL rfl (ZB isAgg3 rfl (hb6.at.get 2 rfl))
    refine Zb (fun w359 c361 x360 hc0362 hk363 => ?_) ?_
    ·replace x360 := RelG.ext0 x360
     have hT := hkp _ _ hT (Bel.weak x360)
     refine Qk (Qk (QU ?_))
     exact Jn rfl (o_clo1 call84 rfl rfl) (hit o.a _ hr.1.1 hr.1.2 hT)
    refine Zb (fun w364 c366 x365 hc0367 hk368 => ?_) ?_
    ·replace x365 := RelG.ext0 x365
     have hT := hkp _ _ hT (Bel.weak x365)
     refine Qk (QU ?_)
     exact ZL rfl (Z3 rfl rfl omg)
    refine Zb (fun w369 c371 x370 hc0372 hk373 => ?_) ?_
    ·replace x370 := RelG.ext0 x370
     have hT := hkp _ _ hT (Bel.weak x370)
     refine Qk (QU ?_)
     exact ZL rfl (Z3 rfl rfl omg)
    refine Zb (fun w374 c376 x375 hc0377 hk378 => ?_) ?_
    ·replace x375 := RelG.ext0 x375
     have hT := hkp _ _ hT (Bel.weak x375)
     refine QU ?_
     exact ZL rfl (ZN underlying50 rfl sizeOf48 rfl)
    refine Zb (fun w379 c381 x380 hc0382 hk383 => ?_) ?_
    ·replace x380 := RelG.ext0 x380
     have hT := hkp _ _ hT (Bel.weak x380)
     have hb6 := hb6.ext x380
     refine Qk (QU ?_)
     exact ZL rfl (ZO isAgg48 sizeOf48 rfl (hb6.at.sub 5 3) rfl)
    refine Zb (fun w384 c386 x385 hc0387 hk388 => ?_) ?_
    ·replace x385 := RelG.ext0 x385
     have hT := hkp _ _ hT (Bel.weak x385)
     refine Qk (Qk (QU ?_))
     exact Jn rfl (ZK call85 rfl) (ptext_ok (False) _ o.p hop)
    refine Zb (fun w389 c391 x390 hc0392 hk393 => ?_) ?_
    ·replace x390 := RelG.ext0 x390
     have hT := hkp _ _ hT (Bel.weak x390)
     refine Qk (Qk (QU ?_))
     exact ZL rfl (Z3 rfl rfl omg)
    refine Zb (fun w394 c396 x395 hc0397 hk398 => ?_) ?_
    ·replace x395 := RelG.ext0 x395
     have hT := hkp _ _ hT (Bel.weak x395)
     refine Qk (Qk (QU ?_))
     exact ZL rfl (Z3 rfl rfl omg)
    exact Jv
   case fin13 =>
    intro w399 c401 x400 hc0402
    replace x400 := RelG.ext0 x400
    replace hX := hX.ex x400
    replace hXL3 := Bel.ex hXL3 x400
    replace hT := hkp _ _ hT (Bel.weak x400)
    refine Qk (Qk (Qk (Qk (Qk (Qk (Qk (Qk (Qk ?_))))))))
    refine Qk (Qk (Qk (QU ?_)))
    refine Rr (ZD (v := str _) rfl) ?_
    refine Qg (Qc ?_)
    refine Rr (Zt (v := str _) rfl) ?_
    refine Rr (Z3 rfl rfl omg) ?_
    refine Rr (ZD (v := str _) rfl) ?_
    refine Qg (Qc ?_)
    refine Rr (Z1 rfl rfl omg) ?_
    refine Rr (mvI rfl) ?_
    refine Qg ?_
    refine ⟨k + 1, ⟨sT, ?_, trivial⟩, oT, ⟨?_, hXL3⟩, ?_⟩
    ·show str _ = str _
     rw [JE (by omega), ← ho]
     unfold lineO
     rw [if_neg (by rw [hadd]; simp), if_neg hk1, if_pos hk2]
     simp [List.append_assoc]
    ·refine ⟨by omega, ?_⟩
     rw [JE (by omega), ← ho, List.length_append]
     have : (lineO o dig textS).length ≤ 3000000 := Yc hl1 hl2 hl3 (by omega)
     omega
    ·omega
  have hk2 : ¬ o.k = 2 := ne_of_beq_false hc6
  apply JA (β := False) (fun _ => 0) [peqC _, peqC _, peqC _, peqC _, peqC _, peqC _, peqC _, peqC _, peqC _, peqC _, peqC _, peqC _, peqC _] [0, 0, 0, 0, 0, 0, 0, 0, 0, 0, 0, 0, 0] 13 Jz (by kernel_rfl) (by kernel_rfl) rfl ⟨Q4 _ _, Q4 _ _, Q4 _ _, Q4 _ _, Q4 _ _, Q4 _ _, Q4 _ _, Q4 _ _, Q4 _ _, Q4 _ _, Q4 _ _, Q4 _ _, Q4 _ _, trivial⟩ ?ob9 ?fin9
  case ob9 =>
   refine Zb (fun w403 c405 x404 hc0406 hk407 => ?_) ?_
   ·replace x404 := RelG.ext0 x404
    have hT := hkp _ _ hT (Bel.weak x404)
    refine QU ?_
    exact ZL rfl (Zt (v := str _) rfl)
   refine Zb (fun w408 c410 x409 hc0411 hk412 => ?_) ?_
   ·replace x409 := RelG.ext0 x409
    have hT := hkp _ _ hT (Bel.weak x409)
    refine QU ?_
    exact ZL rfl (Zt (v := .func _ _ _) rfl)
   refine Zb (fun w413 c415 x414 hc0416 hk417 => ?_) ?_
   ·replace x414 := RelG.ext0 x414
    have hT := hkp _ _ hT (Bel.weak x414)
    refine QU ?_
    exact ZL rfl (ZN underlying50 rfl sizeOf3 rfl)
   refine Zb (fun w418 c420 x419 hc0421 hk422 => ?_) ?_
   ·replace x419 := RelG.ext0 x419
    have hT := hkp _ _ hT (Bel.weak x419)
    have hb6 := hb6.ext x419
    refine Qk (QU ?_)
    exact ZL rfl (ZB isAgg3 rfl (hb6.at.get 2 rfl))
   refine Zb (fun w423 c425 x424 hc0426 hk427 => ?_) ?_
   ·replace x424 := RelG.ext0 x424
    have hT := hkp _ _ hT (Bel.weak x424)
    refine Qk (Qk (QU ?_))
    exact Jn rfl (o_clo1 call84 rfl rfl) (hit o.a _ hr.1.1 hr.1.2 hT)
   refine Zb (fun w428 c430 x429 hc0431 hk432 => ?_) ?_
   ·replace x429 := RelG.ext0 x429
    have hT := hkp _ _ hT (Bel.weak x429)
    refine Qk (QU ?_)
    exact ZL rfl (Z3 rfl rfl omg)
   refine Zb (fun w433 c435 x434 hc0436 hk437 => ?_) ?_
   ·replace x434 := RelG.ext0 x434
    have hT := hkp _ _ hT (Bel.weak x434)
    refine Qk (QU ?_)
    exact ZL rfl (Z3 rfl rfl omg)
   refine Zb (fun w438 c440 x439 hc0441 hk442 => ?_) ?_
   ·replace x439 := RelG.ext0 x439
    have hT := hkp _ _ hT (Bel.weak x439)
    refine QU ?_
    exact ZL rfl (Zt (v := .func _ _ _) rfl)
   refine Zb (fun w443 c445 x444 hc0446 hk447 => ?_) ?_
   ·replace x444 := RelG.ext0 x444
    have hT := hkp _ _ hT (Bel.weak x444)
    refine QU ?_
    exact ZL rfl (ZN underlying50 rfl sizeOf3 rfl)
   refine Zb (fun w448 c450 x449 hc0451 hk452 => ?_) ?_
   ·replace x449 := RelG.ext0 x449
    have hT := hkp _ _ hT (Bel.weak x449)
    have hb6 := hb6.ext x449
    refine Qk (QU ?_)
    exact ZL rfl (ZB isAgg3 rfl (hb6.at.get 3 rfl))
   refine Zb (fun w453 c455 x454 hc0456 hk457 => ?_) ?_
   ·replace x454 := RelG.ext0 x454
    have hT := hkp _ _ hT (Bel.weak x454)
    refine Qk (Qk (Qk (QU ?_)))
    exact Jn rfl (o_clo1 call84 rfl rfl) (hit o.b _ hr.2.1.1 hr.2.1.2 hT)
   refine Zb (fun w458 c460 x459 hc0461 hk462 => ?_) ?_
   ·replace x459 := RelG.ext0 x459
    have hT := hkp _ _ hT (Bel.weak x459)
    refine Qk (Qk (QU ?_))
    exact ZL rfl (Z3 rfl rfl omg)
   refine Zb (fun w463 c465 x464 hc0466 hk467 => ?_) ?_
   ·replace x464 := RelG.ext0 x464
    have hT := hkp _ _ hT (Bel.weak x464)
    refine Qk (Qk (QU ?_))
    exact ZL rfl (Z3 rfl rfl omg)
   exact Jv
  case fin9 =>
   intro w468 c470 x469 hc0471
   replace x469 := RelG.ext0 x469
   replace hX := hX.ex x469
   replace hXL3 := Bel.ex hXL3 x469
   replace hT := hkp _ _ hT (Bel.weak x469)
   refine Qk (Qk (Qk (Qk (Qk (Qk (Qk (Qk (Qk ?_))))))))
   refine Qk (Qk (Qk (Qk (QU ?_))))
   refine Rr (ZD (v := str _) rfl) ?_
   refine Qg (Qc ?_)
   refine Rr (Zt (v := str _) rfl) ?_
   refine Rr (Z3 rfl rfl omg) ?_
   refine Rr (ZD (v := str _) rfl) ?_
   refine Qg (Qc ?_)
   refine Rr (Z1 rfl rfl omg) ?_
   refine Rr (mvI rfl) ?_
   refine Qg ?_
   refine ⟨k + 1, ⟨sT, ?_, trivial⟩, oT, ⟨?_, hXL3⟩, ?_⟩
   ·show str _ = str _
    rw [JE (by omega), ← ho]
    unfold lineO
    rw [if_neg (by rw [hadd]; simp), if_neg hk1, if_neg hk2]
    simp [List.append_assoc]
   ·refine ⟨by omega, ?_⟩
    rw [JE (by omega), ← ho, List.length_append]
    have : (lineO o dig textS).length ≤ 3000000 := Yc hl1 hl2 hl3 (by omega)
    omega
   ·omega
 replace hc1 := dcF hc1
 refine Z4 (ZX (QH (Qc ?_)))
 refine Rr (Zt (v := str _) rfl) ?_
 refine Rr (ZD (v := str _) rfl) ?_
 refine Qg (ZJ ?_)
 refine ⟨_, ZF rfl rfl, ?_⟩
 refine ⟨congrArg str ?_, hX⟩
 all_goals (rw [show k = X.length by omega])

theorem ctext_ok (a : Option Addr) (c : Nat) (G : Nat → Prop) (X : List COp) (w : World) (hs : Sl encCo 8 G w a c X) (hok : ∀ x ∈ X, x.p.ok) (hr0 : ∀ x ∈ X, (0 ≤ x.a ∧ x.a < 100) ∧ (0 ≤ x.b ∧ x.b < 100) ∧ (0 ≤ x.u ∧ x.u < 100)) (hn : X.length ≤ 100) : Ok Tryz.prog 33 #[.agg #[.slice a X.length c]] w fun v w' => v = str (txtO X dig textS X.length) ∧ Ext False w w' :=
 ctextG_ok a c G X w hs hok 100 (by decide) hr0 hn (fun _ => True) (fun _ _ _ _ => trivial) (fun n w h0 h1 _ => itoan_ok n h0 h1 w) trivial
