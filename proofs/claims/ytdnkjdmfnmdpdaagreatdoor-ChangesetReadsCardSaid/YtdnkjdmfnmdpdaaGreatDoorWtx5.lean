/- Walks: what functions return. -/
import Derived.Test.YtdnkjdmfnmdpdaaGreatDoorWset5
import Derived.Test.YtdnkjdmfnmdpdaaGreatDoorKo
import Derived.Test.YtdnkjdmfnmdpdaaGreatDoorWtext
import Derived.Test.YtdnkjdmfnmdpdaaGreatDoorShelf
set_option linter.unusedVariables false
set_option linter.unusedSimpArgs false
set_option linter.unnecessarySimpa false
namespace Go.Proofs.YtdnkjdmfnmdpdaaGreatDoor
open Go Go.Lx Go.RowKit Tryz
set_option maxRecDepth 100000
theorem itoaS_ok (β : Prop) (i : Nat) (hi : i < 100) (w : World) : Ok Tryz.prog 125 #[.int .i64 (i : Int)] w fun v w' => v = str (Lib.decDigits i) ∧ Ext β w w' :=
 Calls.mono (Tryz.internal_strconv_Itoa_small i hi w) fun e w' ⟨h1, h2⟩ => ⟨_, h1, rfl, by rw [h2]; exact Bel.refl _ _⟩
theorem itoas_ok (i : Nat) (hi : i < 100) (w : World) : Ok Tryz.prog 84 #[.int .i64 (i : Int)] w fun v w' => v = str (Lib.decDigits i) ∧ Ext False w w' := by
 refine QD 5 func84 rfl rfl rfl ?_
 have hX : Ext False w w := Bel.refl _ _
 refine Qd (Qa ?_)
 refine Rr Qf ?_
 refine Qb (Qd (Qa ?_))
 refine Rr (mvI rfl) ?_
 refine Qn rfl (Qy call125 rfl) (Ok.mono (itoaS_ok False i hi _) ?_)
 rintro _ w1 ⟨rfl, x2⟩
 replace hX := hX.ex x2
 refine Rr (Qq (v := str _) rfl) ?_
 refine Qb (Qx ?_)
 refine ⟨_, Qu rfl rfl, ?_⟩
 refine ⟨congrArg str ?_, hX⟩
 all_goals (rfl)

theorem itoan_ok (n : Int) (h0 : 0 ≤ n) (h1 : n < 100) (w : World) : Ok Tryz.prog 84 #[.int .i64 n] w fun v w' => v = str (dig n) ∧ Ext False w w' := by
 obtain ⟨i, rfl⟩ := Int.eq_ofNat_of_zero_le h0
 exact itoas_ok i (by omega) w
set_option maxHeartbeats 2000000 in
theorem ctext_ok (a : Option Addr) (c : Nat) (G : Nat → Prop) (X : List COp) (w : World) (hs : Sl encCo 8 G w a c X) (hok : ∀ x ∈ X, x.p.ok) (hr0 : ∀ x ∈ X, (0 ≤ x.a ∧ x.a < 100) ∧ (0 ≤ x.b ∧ x.b < 100) ∧ (0 ≤ x.u ∧ x.u < 100)) (hn : X.length ≤ 100) : Ok Tryz.prog 33 #[.agg #[.slice a X.length c]] w fun v w' => v = str (txtO X dig textS X.length) ∧ Ext False w w' := by
 have hlen := hs.len
 replace hs := hs.mono (F' := fun g => G g ∧ g < w.heap.size) (fun g h1 h2 => ⟨h2, h1⟩)
 refine QD 74 func33 rfl rfl rfl ?_
 have hX : Ext False w w := Bel.refl _ _
 refine Qd (Qa ?_)
 refine QT rfl (Zw (v := .agg _) rfl) ?_
 intro b1 w1 x2 hge1 hb1
 change Box _ _ _ (wsS _ _ _) at hb1
 replace hX := hX.ex x2
 replace hs := hs.ext x2
 refine Rr Qf ?_
 refine Qb (Qd (Qa ?_))
 refine Rr Qf ?_
 refine Rr o_assignf ?_
 refine Qb (Qd (Qd (Qa ?_)))
 refine Rr (QB underlying63 rfl sizeOf61 rfl) ?_
 refine Rr (Qo isAgg61 rfl (hb1.at.get 0 rfl)) ?_
 refine Rr (QM underlying61 rfl) ?_
 refine Rr Zc ?_
 refine Qb (Qz ?_)
 refine Zd (α := Nat) [(3, 3), (6, 6), (10, 72)] (fun k => [(10, .int .i64 (k : Int)), (3, str (txtO X dig textS k))]) (fun k w' => (k ≤ X.length ∧ (txtO X dig textS k).length ≤ k * 3000000) ∧ Ext False w1 w') (fun k => X.length - k) 0 ⟨rfl, rfl, trivial⟩ ⟨⟨Nat.zero_le _, Nat.zero_le _⟩, Bel.refl _ _⟩ ?_
 rintro k fb5 w4 ⟨⟨hk, hOl⟩, hXL3⟩
 replace hX := hX.ex hXL3
 replace hs := hs.ext hXL3
 refine Qd (Qa ?_)
 refine Rr (QV rfl rfl) ?_
 refine Qb (Qd ?_)
 refine Qt rfl (fun hc1 => ?_) (fun hc1 => ?_)
 ·replace hc1 := of_decide_eq_true hc1
  refine Qs (Qd (Qz (Qd (Qa ?_))))
  refine Rr (Ze underlying61 sizeOf50 hs rfl rfl omg) ?_
  refine Rr (Zk isAgg50 sizeOf50 hs rfl (Zh coz (by omega))) ?_
  refine QR rfl rfl zeroValue50 rfl sizeOf50 (fun _ => rfl) rfl rfl ?_
  intro b6 w6 x7 hge6 hb6
  change Box _ _ _ (encCo _) at hb6
  replace hX := hX.ex x7
  replace hXL3 := Bel.ex hXL3 x7
  refine Qb (Qd (Qd (Qa ?_)))
  obtain ⟨o, ho⟩ : ∃ o, o = (X.getD k coz) := ⟨_, rfl⟩
  rw [← ho] at hb6
  have hmem : o ∈ X := ho ▸ gm (show k < X.length by omega)
  have hop := hok o hmem
  have hr := hr0 o hmem
  have hl1 := dig_len hr.1.2; have hl2 := dig_len hr.2.1.2; have hl3 := dig_len hr.2.2.2
  have hl4 := textS_len o.p; have hop1 := hop.1; have hop2 := hop.2
  refine Rr (QB underlying50 rfl sizeOf4 rfl) ?_
  refine Rr (Qo isAgg4 rfl (hb6.at.get 0 rfl)) ?_
  refine Qb ?_
  refine Qt rfl (fun hc2 => ?_) (fun hc2 => ?_)
  ·have hadd : o.add = true := hc2
   refine Qa ?_
   refine Rr (Qh (v := str _) rfl) ?_
   refine Rr (Zs rfl rfl omg) ?_
   refine Rr (Qq (v := str _) rfl) ?_
   refine Qb (Qd (Qd (Qa ?_)))
   refine Rr (QB underlying50 rfl sizeOf47 rfl) ?_
   refine Rr (Qo isAgg47 rfl (hb6.at.get 1 rfl)) ?_
   refine Qb (Qz (Qd (Qa ?_)))
   refine Rr (QO rfl rfl) ?_
   refine Rr (asB rfl) ?_
   refine Qb ?_
   refine Qt rfl (fun hc3 => ?_) (fun hc3 => ?_)
   ·have hk1 : o.k = 1 := eq_of_beq hc3
    apply Zx (β := False) (fun _ => 0) [peqC _, peqC _, peqC _, peqC _, peqC _, peqC _, peqC _, peqC _, peqC _, peqC _, peqC _, peqC _, peqC _, peqC _, peqC _, peqC _, peqC _, peqC _, peqC _] [0, 0, 0, 0, 0, 0, 0, 0, 0, 0, 0, 0, 0, 0, 0, 0, 0, 0, 0] 19 Zq (by kernel_rfl) (by kernel_rfl) rfl ⟨Qm _ _, Qm _ _, Qm _ _, Qm _ _, Qm _ _, Qm _ _, Qm _ _, Qm _ _, Qm _ _, Qm _ _, Qm _ _, Qm _ _, Qm _ _, Qm _ _, Qm _ _, Qm _ _, Qm _ _, Qm _ _, Qm _ _, trivial⟩ ?ob11 ?fin11
    case ob11 =>
     refine Ql (fun w8 c10 x9 hc011 hk12 => ?_) ?_
     ·replace x9 := RelG.ext0 x9
      refine Qj ?_
      exact QF rfl (Qh (v := str _) rfl)
     refine Ql (fun w13 c15 x14 hc016 hk17 => ?_) ?_
     ·replace x14 := RelG.ext0 x14
      refine Qj ?_
      exact QF rfl (Qh (v := .func _ _ _) rfl)
     refine Ql (fun w18 c20 x19 hc021 hk22 => ?_) ?_
     ·replace x19 := RelG.ext0 x19
      refine Qj ?_
      exact QF rfl (QB underlying50 rfl sizeOf3 rfl)
     refine Ql (fun w23 c25 x24 hc026 hk27 => ?_) ?_
     ·replace x24 := RelG.ext0 x24
      have hb6 := hb6.ext x24
      refine Qe (Qj ?_)
      exact QF rfl (Qo isAgg3 rfl (hb6.at.get 2 rfl))
     refine Ql (fun w28 c30 x29 hc031 hk32 => ?_) ?_
     ·replace x29 := RelG.ext0 x29
      refine Qe (Qe (Qj ?_))
      exact OpC_call rfl (o_clo1 call84 rfl rfl) (itoan_ok o.a hr.1.1 hr.1.2 _)
     refine Ql (fun w33 c35 x34 hc036 hk37 => ?_) ?_
     ·replace x34 := RelG.ext0 x34
      refine Qe (Qj ?_)
      exact QF rfl (Zs rfl rfl omg)
     refine Ql (fun w38 c40 x39 hc041 hk42 => ?_) ?_
     ·replace x39 := RelG.ext0 x39
      refine Qe (Qj ?_)
      exact QF rfl (Zs rfl rfl omg)
     refine Ql (fun w43 c45 x44 hc046 hk47 => ?_) ?_
     ·replace x44 := RelG.ext0 x44
      refine Qj ?_
      exact QF rfl (Qh (v := .func _ _ _) rfl)
     refine Ql (fun w48 c50 x49 hc051 hk52 => ?_) ?_
     ·replace x49 := RelG.ext0 x49
      refine Qj ?_
      exact QF rfl (QB underlying50 rfl sizeOf3 rfl)
     refine Ql (fun w53 c55 x54 hc056 hk57 => ?_) ?_
     ·replace x54 := RelG.ext0 x54
      have hb6 := hb6.ext x54
      refine Qe (Qj ?_)
      exact QF rfl (Qo isAgg3 rfl (hb6.at.get 3 rfl))
     refine Ql (fun w58 c60 x59 hc061 hk62 => ?_) ?_
     ·replace x59 := RelG.ext0 x59
      refine Qe (Qe (Qe (Qj ?_)))
      exact OpC_call rfl (o_clo1 call84 rfl rfl) (itoan_ok o.b hr.2.1.1 hr.2.1.2 _)
     refine Ql (fun w63 c65 x64 hc066 hk67 => ?_) ?_
     ·replace x64 := RelG.ext0 x64
      refine Qe (Qe (Qj ?_))
      exact QF rfl (Zs rfl rfl omg)
     refine Ql (fun w68 c70 x69 hc071 hk72 => ?_) ?_
     ·replace x69 := RelG.ext0 x69
      refine Qe (Qj ?_)
      exact QF rfl (Zs rfl rfl omg)
     refine Ql (fun w73 c75 x74 hc076 hk77 => ?_) ?_
     ·replace x74 := RelG.ext0 x74
      refine Qj ?_
      exact QF rfl (Qh (v := .func _ _ _) rfl)
     refine Ql (fun w78 c80 x79 hc081 hk82 => ?_) ?_
     ·replace x79 := RelG.ext0 x79
      refine Qj ?_
      exact QF rfl (QB underlying50 rfl sizeOf3 rfl)
     refine Ql (fun w83 c85 x84 hc086 hk87 => ?_) ?_
     ·replace x84 := RelG.ext0 x84
      have hb6 := hb6.ext x84
      refine Qe (Qj ?_)
      exact QF rfl (Qo isAgg3 rfl (hb6.at.get 4 rfl))
     refine Ql (fun w88 c90 x89 hc091 hk92 => ?_) ?_
     ·replace x89 := RelG.ext0 x89
      refine Qe (Qe (Qe (Qj ?_)))
      exact OpC_call rfl (o_clo1 call84 rfl rfl) (itoan_ok o.u hr.2.2.1 hr.2.2.2 _)
     refine Ql (fun w93 c95 x94 hc096 hk97 => ?_) ?_
     ·replace x94 := RelG.ext0 x94
      refine Qe (Qe (Qj ?_))
      exact QF rfl (Zs rfl rfl omg)
     refine Ql (fun w98 c100 x99 hc0101 hk102 => ?_) ?_
     ·replace x99 := RelG.ext0 x99
      refine Qe (Qe (Qj ?_))
      exact QF rfl (Zs rfl rfl omg)
     exact Zp
    case fin11 =>
     intro w103 c105 x104 hc0106
     replace x104 := RelG.ext0 x104
     replace hX := hX.ex x104
     replace hXL3 := Bel.ex hXL3 x104
     refine Qe (Qe (Qe (Qe (Qe (Qe (Qe (Qe (Qe ?_))))))))
     refine Qe (Qe (Qe (Qe (Qe (Qe (Qe (Qe (Qe ?_))))))))
     refine Qe (Qj ?_)
     refine Rr (Qq (v := str _) rfl) ?_
     refine Qb (Qa ?_)
     refine Rr (Qh (v := str _) rfl) ?_
     refine Rr (Zs rfl rfl omg) ?_
     refine Rr (Qq (v := str _) rfl) ?_
     refine Qb (Qa ?_)
     refine Rr (QN rfl rfl omg) ?_
     refine Rr (mvI rfl) ?_
     refine Qb ?_
     refine ⟨k + 1, ⟨sT, ?_, trivial⟩, oT, ⟨?_, hXL3⟩, ?_⟩
     ·show str _ = str _
      rw [txt_succ (by omega), ← ho]
      unfold lineO
      rw [if_pos hadd, if_pos hk1]
      simp [List.append_assoc]
     ·refine ⟨by omega, ?_⟩
      rw [txt_succ (by omega), ← ho, List.length_append]
      have : (lineO o dig textS).length ≤ 3000000 := line_len hl1 hl2 hl3 (by omega)
      omega
     ·omega
   have hk1 : ¬ o.k = 1 := ne_of_beq_false hc3
   refine Qd (Qa ?_)
   refine Rr (QO rfl rfl) ?_
   refine Rr (asB rfl) ?_
   refine Qb ?_
   refine Qt rfl (fun hc4 => ?_) (fun hc4 => ?_)
   ·have hk2 : o.k = 2 := eq_of_beq hc4
    apply Zx (β := False) (fun _ => 0) [peqC _, peqC _, peqC _, peqC _, peqC _, peqC _, peqC _, peqC _, peqC _, peqC _, peqC _, peqC _] [0, 0, 0, 0, 0, 0, 0, 0, 0, 0, 0, 0] 12 Zq (by kernel_rfl) (by kernel_rfl) rfl ⟨Qm _ _, Qm _ _, Qm _ _, Qm _ _, Qm _ _, Qm _ _, Qm _ _, Qm _ _, Qm _ _, Qm _ _, Qm _ _, Qm _ _, trivial⟩ ?ob13 ?fin13
    case ob13 =>
     refine Ql (fun w107 c109 x108 hc0110 hk111 => ?_) ?_
     ·replace x108 := RelG.ext0 x108
      refine Qj ?_
      exact QF rfl (Qh (v := str _) rfl)
     refine Ql (fun w112 c114 x113 hc0115 hk116 => ?_) ?_
     ·replace x113 := RelG.ext0 x113
      refine Qj ?_
      exact QF rfl (Qh (v := .func _ _ _) rfl)
     refine Ql (fun w117 c119 x118 hc0120 hk121 => ?_) ?_
     ·replace x118 := RelG.ext0 x118
      refine Qj ?_
      exact QF rfl (QB underlying50 rfl sizeOf3 rfl)
     refine Ql (fun w122 c124 x123 hc0125 hk126 => ?_) ?_
     ·replace x123 := RelG.ext0 x123
      have hb6 := hb6.ext x123
      refine Qe (Qj ?_)
      exact QF rfl (Qo isAgg3 rfl (hb6.at.get 2 rfl))
     refine Ql (fun w127 c129 x128 hc0130 hk131 => ?_) ?_
     ·replace x128 := RelG.ext0 x128
      refine Qe (Qe (Qj ?_))
      exact OpC_call rfl (o_clo1 call84 rfl rfl) (itoan_ok o.a hr.1.1 hr.1.2 _)
     refine Ql (fun w132 c134 x133 hc0135 hk136 => ?_) ?_
     ·replace x133 := RelG.ext0 x133
      refine Qe (Qj ?_)
      exact QF rfl (Zs rfl rfl omg)
     refine Ql (fun w137 c139 x138 hc0140 hk141 => ?_) ?_
     ·replace x138 := RelG.ext0 x138
      refine Qe (Qj ?_)
      exact QF rfl (Zs rfl rfl omg)
     refine Ql (fun w142 c144 x143 hc0145 hk146 => ?_) ?_
     ·replace x143 := RelG.ext0 x143
      refine Qj ?_
      exact QF rfl (QB underlying50 rfl sizeOf48 rfl)
     refine Ql (fun w147 c149 x148 hc0150 hk151 => ?_) ?_
     ·replace x148 := RelG.ext0 x148
      have hb6 := hb6.ext x148
      refine Qe (Qj ?_)
      exact QF rfl (QA isAgg48 sizeOf48 rfl (hb6.at.sub 5 3) rfl)
     refine Ql (fun w152 c154 x153 hc0155 hk156 => ?_) ?_
     ·replace x153 := RelG.ext0 x153
      refine Qe (Qe (Qj ?_))
      exact OpC_call rfl (Qy call85 rfl) (ptext_ok (False) _ o.p hop)
     refine Ql (fun w157 c159 x158 hc0160 hk161 => ?_) ?_
     ·replace x158 := RelG.ext0 x158
      refine Qe (Qe (Qj ?_))
      exact QF rfl (Zs rfl rfl omg)
     refine Ql (fun w162 c164 x163 hc0165 hk166 => ?_) ?_
     ·replace x163 := RelG.ext0 x163
      refine Qe (Qe (Qj ?_))
      exact QF rfl (Zs rfl rfl omg)
     exact Zp
    case fin13 =>
     intro w167 c169 x168 hc0170
     replace x168 := RelG.ext0 x168
     replace hX := hX.ex x168
     replace hXL3 := Bel.ex hXL3 x168
     refine Qe (Qe (Qe (Qe (Qe (Qe (Qe (Qe (Qe ?_))))))))
     refine Qe (Qe (Qe (Qj ?_)))
     refine Rr (Qq (v := str _) rfl) ?_
     refine Qb (Qa ?_)
     refine Rr (Qh (v := str _) rfl) ?_
     refine Rr (Zs rfl rfl omg) ?_
     refine Rr (Qq (v := str _) rfl) ?_
     refine Qb (Qa ?_)
     refine Rr (QN rfl rfl omg) ?_
     refine Rr (mvI rfl) ?_
     refine Qb ?_
     refine ⟨k + 1, ⟨sT, ?_, trivial⟩, oT, ⟨?_, hXL3⟩, ?_⟩
     ·show str _ = str _
      rw [txt_succ (by omega), ← ho]
      unfold lineO
      rw [if_pos hadd, if_neg hk1, if_pos hk2]
      simp [List.append_assoc]
     ·refine ⟨by omega, ?_⟩
      rw [txt_succ (by omega), ← ho, List.length_append]
      have : (lineO o dig textS).length ≤ 3000000 := line_len hl1 hl2 hl3 (by omega)
      omega
     ·omega
   have hk2 : ¬ o.k = 2 := ne_of_beq_false hc4
   apply Zx (β := False) (fun _ => 0) [peqC _, peqC _, peqC _, peqC _, peqC _, peqC _, peqC _, peqC _, peqC _, peqC _, peqC _, peqC _, peqC _] [0, 0, 0, 0, 0, 0, 0, 0, 0, 0, 0, 0, 0] 13 Zq (by kernel_rfl) (by kernel_rfl) rfl ⟨Qm _ _, Qm _ _, Qm _ _, Qm _ _, Qm _ _, Qm _ _, Qm _ _, Qm _ _, Qm _ _, Qm _ _, Qm _ _, Qm _ _, Qm _ _, trivial⟩ ?ob9 ?fin9
   case ob9 =>
    refine Ql (fun w171 c173 x172 hc0174 hk175 => ?_) ?_
    ·replace x172 := RelG.ext0 x172
     refine Qj ?_
     exact QF rfl (Qh (v := str _) rfl)
    refine Ql (fun w176 c178 x177 hc0179 hk180 => ?_) ?_
    ·replace x177 := RelG.ext0 x177
     refine Qj ?_
     exact QF rfl (Qh (v := .func _ _ _) rfl)
    refine Ql (fun w181 c183 x182 hc0184 hk185 => ?_) ?_
    ·replace x182 := RelG.ext0 x182
     refine Qj ?_
     exact QF rfl (QB underlying50 rfl sizeOf3 rfl)
    refine Ql (fun w186 c188 x187 hc0189 hk190 => ?_) ?_
    ·replace x187 := RelG.ext0 x187
     have hb6 := hb6.ext x187
     refine Qe (Qj ?_)
     exact QF rfl (Qo isAgg3 rfl (hb6.at.get 2 rfl))
    refine Ql (fun w191 c193 x192 hc0194 hk195 => ?_) ?_
    ·replace x192 := RelG.ext0 x192
     refine Qe (Qe (Qj ?_))
     exact OpC_call rfl (o_clo1 call84 rfl rfl) (itoan_ok o.a hr.1.1 hr.1.2 _)
    refine Ql (fun w196 c198 x197 hc0199 hk200 => ?_) ?_
    ·replace x197 := RelG.ext0 x197
     refine Qe (Qj ?_)
     exact QF rfl (Zs rfl rfl omg)
    refine Ql (fun w201 c203 x202 hc0204 hk205 => ?_) ?_
    ·replace x202 := RelG.ext0 x202
     refine Qe (Qj ?_)
     exact QF rfl (Zs rfl rfl omg)
    refine Ql (fun w206 c208 x207 hc0209 hk210 => ?_) ?_
    ·replace x207 := RelG.ext0 x207
     refine Qj ?_
     exact QF rfl (Qh (v := .func _ _ _) rfl)
    refine Ql (fun w211 c213 x212 hc0214 hk215 => ?_) ?_
    ·replace x212 := RelG.ext0 x212
     refine Qj ?_
     exact QF rfl (QB underlying50 rfl sizeOf3 rfl)
    refine Ql (fun w216 c218 x217 hc0219 hk220 => ?_) ?_
    ·replace x217 := RelG.ext0 x217
     have hb6 := hb6.ext x217
     refine Qe (Qj ?_)
     exact QF rfl (Qo isAgg3 rfl (hb6.at.get 3 rfl))
    refine Ql (fun w221 c223 x222 hc0224 hk225 => ?_) ?_
    ·replace x222 := RelG.ext0 x222
     refine Qe (Qe (Qe (Qj ?_)))
     exact OpC_call rfl (o_clo1 call84 rfl rfl) (itoan_ok o.b hr.2.1.1 hr.2.1.2 _)
    refine Ql (fun w226 c228 x227 hc0229 hk230 => ?_) ?_
    ·replace x227 := RelG.ext0 x227
     refine Qe (Qe (Qj ?_))
     exact QF rfl (Zs rfl rfl omg)
    refine Ql (fun w231 c233 x232 hc0234 hk235 => ?_) ?_
    ·replace x232 := RelG.ext0 x232
     refine Qe (Qe (Qj ?_))
     exact QF rfl (Zs rfl rfl omg)
    exact Zp
   case fin9 =>
    intro w236 c238 x237 hc0239
    replace x237 := RelG.ext0 x237
    replace hX := hX.ex x237
    replace hXL3 := Bel.ex hXL3 x237
    refine Qe (Qe (Qe (Qe (Qe (Qe (Qe (Qe (Qe ?_))))))))
    refine Qe (Qe (Qe (Qe (Qj ?_))))
    refine Rr (Qq (v := str _) rfl) ?_
    refine Qb (Qa ?_)
    refine Rr (Qh (v := str _) rfl) ?_
    refine Rr (Zs rfl rfl omg) ?_
    refine Rr (Qq (v := str _) rfl) ?_
    refine Qb (Qa ?_)
    refine Rr (QN rfl rfl omg) ?_
    refine Rr (mvI rfl) ?_
    refine Qb ?_
    refine ⟨k + 1, ⟨sT, ?_, trivial⟩, oT, ⟨?_, hXL3⟩, ?_⟩
    ·show str _ = str _
     rw [txt_succ (by omega), ← ho]
     unfold lineO
     rw [if_pos hadd, if_neg hk1, if_neg hk2]
     simp [List.append_assoc]
    ·refine ⟨by omega, ?_⟩
     rw [txt_succ (by omega), ← ho, List.length_append]
     have : (lineO o dig textS).length ≤ 3000000 := line_len hl1 hl2 hl3 (by omega)
     omega
    ·omega
  have hadd : o.add = false := hc2
  refine Qa ?_
  refine Rr (Qh (v := str _) rfl) ?_
  refine Rr (Zs rfl rfl omg) ?_
  refine Rr (Qq (v := str _) rfl) ?_
  refine Qb (Qd (Qd (Qa ?_)))
  refine Rr (QB underlying50 rfl sizeOf47 rfl) ?_
  refine Rr (Qo isAgg47 rfl (hb6.at.get 1 rfl)) ?_
  refine Qb (Qz (Qd (Qa ?_)))
  refine Rr (QO rfl rfl) ?_
  refine Rr (asB rfl) ?_
  refine Qb ?_
  refine Qt rfl (fun hc5 => ?_) (fun hc5 => ?_)
  ·have hk1 : o.k = 1 := eq_of_beq hc5
   apply Zx (β := False) (fun _ => 0) [peqC _, peqC _, peqC _, peqC _, peqC _, peqC _, peqC _, peqC _, peqC _, peqC _, peqC _, peqC _, peqC _, peqC _, peqC _, peqC _, peqC _, peqC _, peqC _] [0, 0, 0, 0, 0, 0, 0, 0, 0, 0, 0, 0, 0, 0, 0, 0, 0, 0, 0] 19 Zq (by kernel_rfl) (by kernel_rfl) rfl ⟨Qm _ _, Qm _ _, Qm _ _, Qm _ _, Qm _ _, Qm _ _, Qm _ _, Qm _ _, Qm _ _, Qm _ _, Qm _ _, Qm _ _, Qm _ _, Qm _ _, Qm _ _, Qm _ _, Qm _ _, Qm _ _, Qm _ _, trivial⟩ ?ob11 ?fin11
   case ob11 =>
    refine Ql (fun w240 c242 x241 hc0243 hk244 => ?_) ?_
    ·replace x241 := RelG.ext0 x241
     refine Qj ?_
     exact QF rfl (Qh (v := str _) rfl)
    refine Ql (fun w245 c247 x246 hc0248 hk249 => ?_) ?_
    ·replace x246 := RelG.ext0 x246
     refine Qj ?_
     exact QF rfl (Qh (v := .func _ _ _) rfl)
    refine Ql (fun w250 c252 x251 hc0253 hk254 => ?_) ?_
    ·replace x251 := RelG.ext0 x251
     refine Qj ?_
     exact QF rfl (QB underlying50 rfl sizeOf3 rfl)
    refine Ql (fun w255 c257 x256 hc0258 hk259 => ?_) ?_
    ·replace x256 := RelG.ext0 x256
     have hb6 := hb6.ext x256
     refine Qe (Qj ?_)
     exact QF rfl (Qo isAgg3 rfl (hb6.at.get 2 rfl))
    refine Ql (fun w260 c262 x261 hc0263 hk264 => ?_) ?_
    ·replace x261 := RelG.ext0 x261
     refine Qe (Qe (Qj ?_))
     exact OpC_call rfl (o_clo1 call84 rfl rfl) (itoan_ok o.a hr.1.1 hr.1.2 _)
    refine Ql (fun w265 c267 x266 hc0268 hk269 => ?_) ?_
    ·replace x266 := RelG.ext0 x266
     refine Qe (Qj ?_)
     exact QF rfl (Zs rfl rfl omg)
    refine Ql (fun w270 c272 x271 hc0273 hk274 => ?_) ?_
    ·replace x271 := RelG.ext0 x271
     refine Qe (Qj ?_)
     exact QF rfl (Zs rfl rfl omg)
    refine Ql (fun w275 c277 x276 hc0278 hk279 => ?_) ?_
    ·replace x276 := RelG.ext0 x276
     refine Qj ?_
     exact QF rfl (Qh (v := .func _ _ _) rfl)
    refine Ql (fun w280 c282 x281 hc0283 hk284 => ?_) ?_
    ·replace x281 := RelG.ext0 x281
     refine Qj ?_
     exact QF rfl (QB underlying50 rfl sizeOf3 rfl)
    refine Ql (fun w285 c287 x286 hc0288 hk289 => ?_) ?_
    ·replace x286 := RelG.ext0 x286
     have hb6 := hb6.ext x286
     refine Qe (Qj ?_)
     exact QF rfl (Qo isAgg3 rfl (hb6.at.get 3 rfl))
    refine Ql (fun w290 c292 x291 hc0293 hk294 => ?_) ?_
    ·replace x291 := RelG.ext0 x291
     refine Qe (Qe (Qe (Qj ?_)))
     exact OpC_call rfl (o_clo1 call84 rfl rfl) (itoan_ok o.b hr.2.1.1 hr.2.1.2 _)
    refine Ql (fun w295 c297 x296 hc0298 hk299 => ?_) ?_
    ·replace x296 := RelG.ext0 x296
     refine Qe (Qe (Qj ?_))
     exact QF rfl (Zs rfl rfl omg)
    refine Ql (fun w300 c302 x301 hc0303 hk304 => ?_) ?_
    ·replace x301 := RelG.ext0 x301
     refine Qe (Qj ?_)
     exact QF rfl (Zs rfl rfl omg)
    refine Ql (fun w305 c307 x306 hc0308 hk309 => ?_) ?_
    ·replace x306 := RelG.ext0 x306
     refine Qj ?_
     exact QF rfl (Qh (v := .func _ _ _) rfl)
    refine Ql (fun w310 c312 x311 hc0313 hk314 => ?_) ?_
    ·replace x311 := RelG.ext0 x311
     refine Qj ?_
     exact QF rfl (QB underlying50 rfl sizeOf3 rfl)
    refine Ql (fun w315 c317 x316 hc0318 hk319 => ?_) ?_
    ·replace x316 := RelG.ext0 x316
     have hb6 := hb6.ext x316
     refine Qe (Qj ?_)
     exact QF rfl (Qo isAgg3 rfl (hb6.at.get 4 rfl))
    refine Ql (fun w320 c322 x321 hc0323 hk324 => ?_) ?_
    ·replace x321 := RelG.ext0 x321
     refine Qe (Qe (Qe (Qj ?_)))
     exact OpC_call rfl (o_clo1 call84 rfl rfl) (itoan_ok o.u hr.2.2.1 hr.2.2.2 _)
    refine Ql (fun w325 c327 x326 hc0328 hk329 => ?_) ?_
    ·replace x326 := RelG.ext0 x326
     refine Qe (Qe (Qj ?_))
     exact QF rfl (Zs rfl rfl omg)
    refine Ql (fun w330 c332 x331 hc0333 hk334 => ?_) ?_
    ·replace x331 := RelG.ext0 x331
     refine Qe (Qe (Qj ?_))
     exact QF rfl (Zs rfl rfl omg)
    exact Zp
   case fin11 =>
    intro w335 c337 x336 hc0338
    replace x336 := RelG.ext0 x336
    replace hX := hX.ex x336
    replace hXL3 := Bel.ex hXL3 x336
    refine Qe (Qe (Qe (Qe (Qe (Qe (Qe (Qe (Qe ?_))))))))
    refine Qe (Qe (Qe (Qe (Qe (Qe (Qe (Qe (Qe ?_))))))))
    refine Qe (Qj ?_)
    refine Rr (Qq (v := str _) rfl) ?_
    refine Qb (Qa ?_)
    refine Rr (Qh (v := str _) rfl) ?_
    refine Rr (Zs rfl rfl omg) ?_
    refine Rr (Qq (v := str _) rfl) ?_
    refine Qb (Qa ?_)
    refine Rr (QN rfl rfl omg) ?_
    refine Rr (mvI rfl) ?_
    refine Qb ?_
    refine ⟨k + 1, ⟨sT, ?_, trivial⟩, oT, ⟨?_, hXL3⟩, ?_⟩
    ·show str _ = str _
     rw [txt_succ (by omega), ← ho]
     unfold lineO
     rw [if_neg (by rw [hadd]; simp), if_pos hk1]
     simp [List.append_assoc]
    ·refine ⟨by omega, ?_⟩
     rw [txt_succ (by omega), ← ho, List.length_append]
     have : (lineO o dig textS).length ≤ 3000000 := line_len hl1 hl2 hl3 (by omega)
     omega
    ·omega
  have hk1 : ¬ o.k = 1 := ne_of_beq_false hc5
  refine Qd (Qa ?_)
  refine Rr (QO rfl rfl) ?_
  refine Rr (asB rfl) ?_
  refine Qb ?_
  refine Qt rfl (fun hc6 => ?_) (fun hc6 => ?_)
  ·have hk2 : o.k = 2 := eq_of_beq hc6
   apply Zx (β := False) (fun _ => 0) [peqC _, peqC _, peqC _, peqC _, peqC _, peqC _, peqC _, peqC _, peqC _, peqC _, peqC _, peqC _] [0, 0, 0, 0, 0, 0, 0, 0, 0, 0, 0, 0] 12 Zq (by kernel_rfl) (by kernel_rfl) rfl ⟨Qm _ _, Qm _ _, Qm _ _, Qm _ _, Qm _ _, Qm _ _, Qm _ _, Qm _ _, Qm _ _, Qm _ _, Qm _ _, Qm _ _, trivial⟩ ?ob13 ?fin13
   case ob13 =>
    refine Ql (fun w339 c341 x340 hc0342 hk343 => ?_) ?_
    ·replace x340 := RelG.ext0 x340
     refine Qj ?_
     exact QF rfl (Qh (v := str _) rfl)
    refine Ql (fun w344 c346 x345 hc0347 hk348 => ?_) ?_
    ·replace x345 := RelG.ext0 x345
     refine Qj ?_
     exact QF rfl (Qh (v := .func _ _ _) rfl)
    refine Ql (fun w349 c351 x350 hc0352 hk353 => ?_) ?_
    ·replace x350 := RelG.ext0 x350
     refine Qj ?_
     exact QF rfl (QB underlying50 rfl sizeOf3 rfl)
    refine Ql (fun w354 c356 x355 hc0357 hk358 => ?_) ?_
    ·replace x355 := RelG.ext0 x355
     have hb6 := hb6.ext x355
     refine Qe (Qj ?_)
     exact QF rfl (Qo isAgg3 rfl (hb6.at.get 2 rfl))
    refine Ql (fun w359 c361 x360 hc0362 hk363 => ?_) ?_
    ·replace x360 := RelG.ext0 x360
     refine Qe (Qe (Qj ?_))
     exact OpC_call rfl (o_clo1 call84 rfl rfl) (itoan_ok o.a hr.1.1 hr.1.2 _)
    refine Ql (fun w364 c366 x365 hc0367 hk368 => ?_) ?_
    ·replace x365 := RelG.ext0 x365
     refine Qe (Qj ?_)
     exact QF rfl (Zs rfl rfl omg)
    refine Ql (fun w369 c371 x370 hc0372 hk373 => ?_) ?_
    ·replace x370 := RelG.ext0 x370
     refine Qe (Qj ?_)
     exact QF rfl (Zs rfl rfl omg)
    refine Ql (fun w374 c376 x375 hc0377 hk378 => ?_) ?_
    ·replace x375 := RelG.ext0 x375
     refine Qj ?_
     exact QF rfl (QB underlying50 rfl sizeOf48 rfl)
    refine Ql (fun w379 c381 x380 hc0382 hk383 => ?_) ?_
    ·replace x380 := RelG.ext0 x380
     have hb6 := hb6.ext x380
     refine Qe (Qj ?_)
     exact QF rfl (QA isAgg48 sizeOf48 rfl (hb6.at.sub 5 3) rfl)
    refine Ql (fun w384 c386 x385 hc0387 hk388 => ?_) ?_
    ·replace x385 := RelG.ext0 x385
     refine Qe (Qe (Qj ?_))
     exact OpC_call rfl (Qy call85 rfl) (ptext_ok (False) _ o.p hop)
    refine Ql (fun w389 c391 x390 hc0392 hk393 => ?_) ?_
    ·replace x390 := RelG.ext0 x390
     refine Qe (Qe (Qj ?_))
     exact QF rfl (Zs rfl rfl omg)
    refine Ql (fun w394 c396 x395 hc0397 hk398 => ?_) ?_
    ·replace x395 := RelG.ext0 x395
     refine Qe (Qe (Qj ?_))
     exact QF rfl (Zs rfl rfl omg)
    exact Zp
   case fin13 =>
    intro w399 c401 x400 hc0402
    replace x400 := RelG.ext0 x400
    replace hX := hX.ex x400
    replace hXL3 := Bel.ex hXL3 x400
    refine Qe (Qe (Qe (Qe (Qe (Qe (Qe (Qe (Qe ?_))))))))
    refine Qe (Qe (Qe (Qj ?_)))
    refine Rr (Qq (v := str _) rfl) ?_
    refine Qb (Qa ?_)
    refine Rr (Qh (v := str _) rfl) ?_
    refine Rr (Zs rfl rfl omg) ?_
    refine Rr (Qq (v := str _) rfl) ?_
    refine Qb (Qa ?_)
    refine Rr (QN rfl rfl omg) ?_
    refine Rr (mvI rfl) ?_
    refine Qb ?_
    refine ⟨k + 1, ⟨sT, ?_, trivial⟩, oT, ⟨?_, hXL3⟩, ?_⟩
    ·show str _ = str _
     rw [txt_succ (by omega), ← ho]
     unfold lineO
     rw [if_neg (by rw [hadd]; simp), if_neg hk1, if_pos hk2]
     simp [List.append_assoc]
    ·refine ⟨by omega, ?_⟩
     rw [txt_succ (by omega), ← ho, List.length_append]
     have : (lineO o dig textS).length ≤ 3000000 := line_len hl1 hl2 hl3 (by omega)
     omega
    ·omega
  have hk2 : ¬ o.k = 2 := ne_of_beq_false hc6
  apply Zx (β := False) (fun _ => 0) [peqC _, peqC _, peqC _, peqC _, peqC _, peqC _, peqC _, peqC _, peqC _, peqC _, peqC _, peqC _, peqC _] [0, 0, 0, 0, 0, 0, 0, 0, 0, 0, 0, 0, 0] 13 Zq (by kernel_rfl) (by kernel_rfl) rfl ⟨Qm _ _, Qm _ _, Qm _ _, Qm _ _, Qm _ _, Qm _ _, Qm _ _, Qm _ _, Qm _ _, Qm _ _, Qm _ _, Qm _ _, Qm _ _, trivial⟩ ?ob9 ?fin9
  case ob9 =>
   refine Ql (fun w403 c405 x404 hc0406 hk407 => ?_) ?_
   ·replace x404 := RelG.ext0 x404
    refine Qj ?_
    exact QF rfl (Qh (v := str _) rfl)
   refine Ql (fun w408 c410 x409 hc0411 hk412 => ?_) ?_
   ·replace x409 := RelG.ext0 x409
    refine Qj ?_
    exact QF rfl (Qh (v := .func _ _ _) rfl)
   refine Ql (fun w413 c415 x414 hc0416 hk417 => ?_) ?_
   ·replace x414 := RelG.ext0 x414
    refine Qj ?_
    exact QF rfl (QB underlying50 rfl sizeOf3 rfl)
   refine Ql (fun w418 c420 x419 hc0421 hk422 => ?_) ?_
   ·replace x419 := RelG.ext0 x419
    have hb6 := hb6.ext x419
    refine Qe (Qj ?_)
    exact QF rfl (Qo isAgg3 rfl (hb6.at.get 2 rfl))
   refine Ql (fun w423 c425 x424 hc0426 hk427 => ?_) ?_
   ·replace x424 := RelG.ext0 x424
    refine Qe (Qe (Qj ?_))
    exact OpC_call rfl (o_clo1 call84 rfl rfl) (itoan_ok o.a hr.1.1 hr.1.2 _)
   refine Ql (fun w428 c430 x429 hc0431 hk432 => ?_) ?_
   ·replace x429 := RelG.ext0 x429
    refine Qe (Qj ?_)
    exact QF rfl (Zs rfl rfl omg)
   refine Ql (fun w433 c435 x434 hc0436 hk437 => ?_) ?_
   ·replace x434 := RelG.ext0 x434
    refine Qe (Qj ?_)
    exact QF rfl (Zs rfl rfl omg)
   refine Ql (fun w438 c440 x439 hc0441 hk442 => ?_) ?_
   ·replace x439 := RelG.ext0 x439
    refine Qj ?_
    exact QF rfl (Qh (v := .func _ _ _) rfl)
   refine Ql (fun w443 c445 x444 hc0446 hk447 => ?_) ?_
   ·replace x444 := RelG.ext0 x444
    refine Qj ?_
    exact QF rfl (QB underlying50 rfl sizeOf3 rfl)
   refine Ql (fun w448 c450 x449 hc0451 hk452 => ?_) ?_
   ·replace x449 := RelG.ext0 x449
    have hb6 := hb6.ext x449
    refine Qe (Qj ?_)
    exact QF rfl (Qo isAgg3 rfl (hb6.at.get 3 rfl))
   refine Ql (fun w453 c455 x454 hc0456 hk457 => ?_) ?_
   ·replace x454 := RelG.ext0 x454
    refine Qe (Qe (Qe (Qj ?_)))
    exact OpC_call rfl (o_clo1 call84 rfl rfl) (itoan_ok o.b hr.2.1.1 hr.2.1.2 _)
   refine Ql (fun w458 c460 x459 hc0461 hk462 => ?_) ?_
   ·replace x459 := RelG.ext0 x459
    refine Qe (Qe (Qj ?_))
    exact QF rfl (Zs rfl rfl omg)
   refine Ql (fun w463 c465 x464 hc0466 hk467 => ?_) ?_
   ·replace x464 := RelG.ext0 x464
    refine Qe (Qe (Qj ?_))
    exact QF rfl (Zs rfl rfl omg)
   exact Zp
  case fin9 =>
   intro w468 c470 x469 hc0471
   replace x469 := RelG.ext0 x469
   replace hX := hX.ex x469
   replace hXL3 := Bel.ex hXL3 x469
   refine Qe (Qe (Qe (Qe (Qe (Qe (Qe (Qe (Qe ?_))))))))
   refine Qe (Qe (Qe (Qe (Qj ?_))))
   refine Rr (Qq (v := str _) rfl) ?_
   refine Qb (Qa ?_)
   refine Rr (Qh (v := str _) rfl) ?_
   refine Rr (Zs rfl rfl omg) ?_
   refine Rr (Qq (v := str _) rfl) ?_
   refine Qb (Qa ?_)
   refine Rr (QN rfl rfl omg) ?_
   refine Rr (mvI rfl) ?_
   refine Qb ?_
   refine ⟨k + 1, ⟨sT, ?_, trivial⟩, oT, ⟨?_, hXL3⟩, ?_⟩
   ·show str _ = str _
    rw [txt_succ (by omega), ← ho]
    unfold lineO
    rw [if_neg (by rw [hadd]; simp), if_neg hk1, if_neg hk2]
    simp [List.append_assoc]
   ·refine ⟨by omega, ?_⟩
    rw [txt_succ (by omega), ← ho, List.length_append]
    have : (lineO o dig textS).length ≤ 3000000 := line_len hl1 hl2 hl3 (by omega)
    omega
   ·omega
 replace hc1 := of_decide_eq_false hc1
 refine QS (QJ (Qd (Qa ?_)))
 refine Rr (Qh (v := str _) rfl) ?_
 refine Rr (Qq (v := str _) rfl) ?_
 refine Qb (Qx ?_)
 refine ⟨_, Qu rfl rfl, ?_⟩
 refine ⟨congrArg str ?_, hX⟩
 all_goals (rw [show k = X.length by omega])

end Go.Proofs.YtdnkjdmfnmdpdaaGreatDoor
