/- Walks: what functions return. -/
import Derived.Test.YtjnjalalkbamkaaGreatDoorWcb5
import Derived.Test.YtjnjalalkbamkaaGreatDoorWc52
import Derived.Test.YtjnjalalkbamkaaGreatDoorWr52
set_option linter.unusedVariables false
set_option linter.unusedSimpArgs false
set_option linter.unnecessarySimpa false
namespace Go.Proofs.YtjnjalalkbamkaaGreatDoor
open Go Go.Lx Go.RowKit Tryz
set_option maxRecDepth 100000
set_option maxHeartbeats 2000000 in
theorem same52_ok (v0 : Value) (c : Cpg) (D : Nat → Prop) (a0 : Option Addr) (n0 : Nat) (G0 : Nat → Prop) (w : World) (hc : CpIs 73 D w v0 c) (hl : Sl encIr 4 G0 w a0 n0 c.l) (hv : VlC c) (hn : c.l.length ≤ 10000) : Ok Tryz.prog 8 #[v0, .agg (cgC c (.slice a0 c.l.length n0)).toArray] w fun v w' => v = .bool true ∧ Ext False w w' := by
 obtain ⟨b, u, rfl, hDb, hb, a1, c1, rfl, hp⟩ := hc
 have hlen := hl.len
 replace hl := hl.mono (F' := fun g => g < w.heap.size) (fun g h1 h2 => h1)
 replace hp := hp.mono (F' := fun g => g < w.heap.size) (fun g h1 h2 => h1)
 have hnb := hv.nb hn
 have hdr := hv.d
 refine Qz 65 func8 rfl rfl rfl ?_
 have hX := xRf w
 refine Qe (Qc ?_)
 refine QJ rfl (Q4 (v := .agg _) rfl) ?_
 intro b3 w1 x2 hge3 hb3
 have hlt3 := hb3.lt
 change Box _ _ _ (cgC _ _) at hb3
 have z3 := x2.size
 replace hX := hX.ex x2
 replace hb := hb.ext x2
 replace hp := hp.ext x2
 replace hl := hl.ext x2
 refine Rr Qm ?_
 refine Qd (Qe (Qe ?_))
 apply Ze (β := False) (fun _ => 0) [peqC _, peqC _, peqC _, peqC _, peqC _, peqC _, peqC _, peqC _, peqC _, peqC _, peqC _, peqC _, peqC _, peqC _, peqC _, peqC _, peqC _, peqC _, (postOwn encB 1 5 0 (cpB c)), (postV (fun v => v = str (cpB c))), peqC _, (postOwn encB 1 5 0 (cpB c)), (postV (fun v => v = str (cpB c))), peqC _, peqC _] [0, 0, 0, 0, 0, 0, 0, 0, 0, 0, 0, 0, 0, 0, 0, 0, 0, 0, 0, 0, 0, 0, 0, 0, 0] 25 Q9 (by kernel_rfl) (by kernel_rfl) rfl ⟨Qi _ _, Qi _ _, Qi _ _, Qi _ _, Qi _ _, Qi _ _, Qi _ _, Qi _ _, Qi _ _, Qi _ _, Qi _ _, Qi _ _, Qi _ _, Qi _ _, Qi _ _, Qi _ _, Qi _ _, Qi _ _, (Q1), (postV_stable), Qi _ _, (Q1), (postV_stable), Qi _ _, Qi _ _, trivial⟩ ?ob1 ?fin1
 case ob1 =>
  refine Qk (fun w4 c6 x5 hc07 hk8 => ?_) ?_
  ·replace x5 := RelG.ext0 x5
   have z9 := x5.size
   refine Qj ?_
   exact Qs rfl (Ql (v := .pointer _) rfl)
  refine Qk (fun w10 c12 x11 hc013 hk14 => ?_) ?_
  ·replace x11 := RelG.ext0 x11
   have z15 := x11.size
   refine Qb (Qj ?_)
   exact Qs rfl (o_peq underlying32 rfl rfl)
  refine Qk (fun w16 c18 x17 hc019 hk20 => ?_) ?_
  ·replace x17 := RelG.ext0 x17
   have z21 := x17.size
   refine Qb (Qj ?_)
   exact Qs rfl (mvB rfl)
  refine Qk (fun w22 c24 x23 hc025 hk26 => ?_) ?_
  ·replace x23 := RelG.ext0 x23
   have z27 := x23.size
   refine Qb (Qj ?_)
   refine QU 2 10 rfl rfl ?_
   exact Qs rfl (Ql (v := .pointer _) rfl)
  refine Qk (fun w28 c30 x29 hc031 hk32 => ?_) ?_
  ·replace x29 := RelG.ext0 x29
   have z33 := x29.size
   have hb := hb.ext x29
   refine Qb (Qb (Qb (Qj ?_)))
   refine QU 2 10 rfl rfl ?_
   exact OpC_call rfl (QA call30 rfl) (cday_ok b c _ _ hb)
  refine Qk (fun w34 c36 x35 hc037 hk38 => ?_) ?_
  ·replace x35 := RelG.ext0 x35
   have z39 := x35.size
   refine Qb (Qj ?_)
   refine QU 2 10 rfl rfl ?_
   exact Qs rfl (Qx underlying24 rfl sizeOf3 rfl)
  refine Qk (fun w40 c42 x41 hc043 hk44 => ?_) ?_
  ·replace x41 := RelG.ext0 x41
   have z45 := x41.size
   have hb3 := hb3.ext x41
   refine Qb (Qb (Qj ?_))
   refine QU 2 10 rfl rfl ?_
   exact Qs rfl (Qn isAgg3 rfl (hb3.at.get 0 rfl))
  refine Qk (fun w46 c48 x47 hc049 hk50 => ?_) ?_
  ·replace x47 := RelG.ext0 x47
   have z51 := x47.size
   refine Qb (Qb (Qb (Qj ?_)))
   refine QU 2 10 rfl rfl ?_
   exact Qs rfl (o_neq rfl rfl)
  refine Qk (fun w52 c54 x53 hc055 hk56 => ?_) ?_
  ·replace x53 := RelG.ext0 x53
   have z57 := x53.size
   refine Qb (Qb (Qj ?_))
   exact Qs rfl (Q3 (v := .bool _) rfl rfl)
  refine Qk (fun w58 c60 x59 hc061 hk62 => ?_) ?_
  ·replace x59 := RelG.ext0 x59
   have z63 := x59.size
   refine Qb (Qb (Qj ?_))
   exact Qs rfl (mvB rfl)
  refine Qk (fun w64 c66 x65 hc067 hk68 => ?_) ?_
  ·replace x65 := RelG.ext0 x65
   have z69 := x65.size
   refine Qb (Qj ?_)
   refine QU 9 17 rfl (cvB (by simp)) ?_
   exact Qs rfl (Ql (v := .pointer _) rfl)
  refine Qk (fun w70 c72 x71 hc073 hk74 => ?_) ?_
  ·replace x71 := RelG.ext0 x71
   have z75 := x71.size
   have hb := hb.ext x71
   have hp := hp.ext x71
   refine Qb (Qb (Qb (Qj ?_)))
   refine QU 9 17 rfl (cvB (by simp)) ?_
   exact OpC_call rfl (QA call17 rfl) (cfin_ok b c a1 c1 _ _ hb hp)
  refine Qk (fun w76 c78 x77 hc079 hk80 => ?_) ?_
  ·replace x77 := RelG.ext0 x77
   have z81 := x77.size
   have hb3 := hb3.ext x77
   refine Qb (Qj ?_)
   refine QU 9 17 rfl (cvB (by simp)) ?_
   exact Qs rfl (QO isAgg24 sizeOf24 rfl hb3.at rfl)
  refine Qk (fun w82 c84 x83 hc085 hk86 => ?_) ?_
  ·replace x83 := RelG.ext0 x83
   have z87 := x83.size
   have hl := hl.ext x83
   refine Qb (Qb (Qb (Qj ?_)))
   refine QU 9 17 rfl (cvB (by simp)) ?_
   exact OpC_call rfl (QA call31 rfl) (r52fin_ok c a0 n0 _ _ hl)
  refine Qk (fun w88 c90 x89 hc091 hk92 => ?_) ?_
  ·replace x89 := RelG.ext0 x89
   have z93 := x89.size
   refine Qb (Qb (Qb (Qj ?_)))
   refine QU 9 17 rfl (cvB (by simp)) ?_
   exact Qs rfl (o_bneq underlying4 rfl rfl)
  refine Qk (fun w94 c96 x95 hc097 hk98 => ?_) ?_
  ·replace x95 := RelG.ext0 x95
   have z99 := x95.size
   refine Qb (Qb (Qj ?_))
   exact Qs rfl (Q3 (v := .bool _) (cvB (by simp)) rfl)
  refine Qk (fun w100 c102 x101 hc0103 hk104 => ?_) ?_
  ·replace x101 := RelG.ext0 x101
   have z105 := x101.size
   refine Qb (Qb (Qj ?_))
   exact Qs rfl (mvB rfl)
  refine Qk (fun w106 c108 x107 hc0109 hk110 => ?_) ?_
  ·replace x107 := RelG.ext0 x107
   have z111 := x107.size
   refine Qb (Qj ?_)
   refine QU 16 24 rfl (cvB (by rw [fin_eq hv]; simp)) ?_
   exact Qs rfl (Ql (v := .pointer _) rfl)
  refine Qk (fun w112 c114 x113 hc0115 hk116 => ?_) ?_
  ·replace x113 := RelG.ext0 x113
   have z117 := x113.size
   have hb := hb.ext x113
   have hp := hp.ext x113
   refine Qb (Qb (Qb (Qj ?_)))
   refine QU 16 24 rfl (cvB (by rw [fin_eq hv]; simp)) ?_
   exact OpC_own rfl (QA call9 rfl) (cpbytes_ok b c a1 c1 _ _ hb hp hnb (fun x hx => by have := hdr x hx; omega) (by omega))
  refine Qk (fun w118 c120 x119 hc0121 hk122 => ?_) ?_
  ·replace x119 := RelG.ext0 x119
   have z123 := x119.size
   refine Qw (fun v26 hv26 => ?_)
   refine Qb (Qj ?_)
   refine QU 16 24 rfl (cvB (by rw [fin_eq hv]; simp)) ?_
   obtain ⟨a26, c26, rfl, hs26⟩ := Own.sl hv26 QI
   exact OpC_vp rfl (o_bs underlying30 underlying5 underlying9 rfl hs26) rfl
  refine Qk (fun w124 c126 x125 hc0127 hk128 => ?_) ?_
  ·replace x125 := RelG.ext0 x125
   have z129 := x125.size
   have hb3 := hb3.ext x125
   refine Qb (Qj ?_)
   refine QU 16 24 rfl (cvB (by rw [fin_eq hv]; simp)) ?_
   exact Qs rfl (QO isAgg24 sizeOf24 rfl hb3.at rfl)
  refine Qk (fun w130 c132 x131 hc0133 hk134 => ?_) ?_
  ·replace x131 := RelG.ext0 x131
   have z135 := x131.size
   have hl := hl.ext x131
   refine Qb ?_
   refine Qw (fun v26 hv26 => ?_)
   refine Qb (Qj ?_)
   refine QU 16 24 rfl (cvB (by rw [fin_eq hv]; simp)) ?_
   exact OpC_own rfl (QA call5 rfl) (r52bytes_ok c a0 n0 _ _ hl hnb (by omega))
  refine Qk (fun w136 c138 x137 hc0139 hk140 => ?_) ?_
  ·replace x137 := RelG.ext0 x137
   have z141 := x137.size
   refine Qw (fun v29 hv29 => ?_)
   refine Qb (Qj ?_)
   refine QU 16 24 rfl (cvB (by rw [fin_eq hv]; simp)) ?_
   obtain ⟨a29, c29, rfl, hs29⟩ := Own.sl hv29 QI
   exact OpC_vp rfl (o_bs underlying30 underlying5 underlying9 rfl hs29) rfl
  refine Qk (fun w142 c144 x143 hc0145 hk146 => ?_) ?_
  ·replace x143 := RelG.ext0 x143
   have z147 := x143.size
   refine Qw (fun v27 hv27 => ?_)
   have he27 : v27 = _ := hv27
   subst he27
   refine Qw (fun v30 hv30 => ?_)
   have he30 : v30 = _ := hv30
   subst he30
   refine Qb (Qj ?_)
   refine QU 16 24 rfl (cvB (by rw [fin_eq hv]; simp)) ?_
   exact Qs rfl (o_sneq rfl rfl)
  refine Qk (fun w148 c150 x149 hc0151 hk152 => ?_) ?_
  ·replace x149 := RelG.ext0 x149
   have z153 := x149.size
   refine Qb (Qb (Qj ?_))
   exact Qs rfl (Q3 (v := .bool _) (cvB (by rw [fin_eq hv]; simp)) rfl)
  exact Q8
 case fin1 =>
  intro w154 c156 x155 hc0157
  replace x155 := RelG.ext0 x155
  have z158 := x155.size
  replace hX := hX.ex x155
  replace hb := hb.ext x155
  replace hp := hp.ext x155
  replace hl := hl.ext x155
  replace hb3 := hb3.ext x155
  refine Qb (Qb (Qb (Qb (Qb (Qb (Qb (Qb (Qb ?_))))))))
  refine Qb (Qb (Qb (Qb (Qb (Qb (Qb (Qb (Qb ?_))))))))
  refine Qw (fun v26 hv26 => ?_)
  refine Qw (fun v27 hv27 => ?_)
  have he27 : v27 = _ := hv27
  subst he27
  refine Qb ?_
  refine Qw (fun v29 hv29 => ?_)
  refine Qw (fun v30 hv30 => ?_)
  have he30 : v30 = _ := hv30
  subst he30
  refine Qb (Qb (Qj (Qd ?_)))
  refine Qr (cvB (by simp)) ?_
  refine Qu (Qe (Qc ?_))
  refine Rr (Ql (v := .pointer _) rfl) ?_
  refine Qo rfl (QA call14 rfl) (Ok.mono (citems_ok b c a1 c1 _ _ hb hp (by omega)) ?_)
  rintro v34 w159 ⟨hown34, x160⟩
  have z161 := x160.size
  replace hX := hX.ex x160
  replace hl := hl.ext x160
  replace hb3 := hb3.ext x160
  replace hown34 := hown34.mono (D' := fun g => w.heap.size ≤ g) (fun g h1 h2 => by omega)
  refine Rr (Qv (v := v34) rfl) ?_
  refine Qd (Qe (Qe (Qc ?_)))
  obtain ⟨a34, c34, hv34, hs34⟩ := hown34.sl Zc
  subst hv34
  refine Rr (mvS rfl) ?_
  refine Rr (QK underlying53 rfl) ?_
  refine Rr (Qx underlying24 rfl sizeOf22 rfl) ?_
  refine Rr (Qn isAgg22 rfl (hb3.at.get 5 rfl)) ?_
  refine Rr (QK underlying22 rfl) ?_
  refine Rr (o_neq rfl rfl) ?_
  refine Qd ?_
  refine Qr (cvB (by simp)) ?_
  refine Qu (Qe (Qe (Qc ?_)))
  refine Rr (mvS rfl) ?_
  refine Rr (QK underlying53 rfl) ?_
  refine Rr QT ?_
  refine Qd (QB ?_)
  refine Za (α := Nat) [(4, 4), (6, 7), (43, 64)] (fun k => [(43, .int .i64 (k : Int))]) (fun k w' => (k ≤ c.l.length) ∧ Ext False w159 w') (fun k => c.l.length - k) 0 ⟨rfl, trivial⟩ ⟨Nat.zero_le _, Bel.refl _ _⟩ ?_
  rintro k fb164 w163 ⟨hk, hXL162⟩
  have z165 := Bel.size hXL162
  replace hX := hX.ex hXL162
  replace hl := hl.ext hXL162
  replace hb3 := hb3.ext hXL162
  replace hs34 := hs34.ext hXL162
  refine Qe (Qc ?_)
  refine Rr (QQ rfl rfl) ?_
  refine Qd (Qe ?_)
  refine QD rfl (fun hc3 => ?_) (fun hc3 => ?_)
  ·have hk1 : k < c.l.length := by have := dcT hc3; omega
   refine Qu (Qe (QB (Qe (Qc ?_))))
   refine Rr (mvI rfl) ?_
   refine Rr (Zg underlying53 sizeOf56 hs34 rfl rfl omg) ?_
   refine Rr (o_ldRS isAgg56 sizeOf56 hs34 rfl (getE itz hk1)) ?_
   refine QJ rfl (Zh zeroValue56) ?_
   intro b7 w166 x167 hge7 hb7
   have hlt7 := hb7.lt
   change Box _ _ _ ([.int _ _, .int _ _, .int _ _, .int _ _]) at hb7
   have z168 := x167.size
   replace hX := hX.ex x167
   replace hXL162 := Bel.ex hXL162 x167
   replace hl := hl.ext x167
   replace hb3 := hb3.ext x167
   refine Rr (asI rfl) ?_
   refine QX (v := .agg _) rfl sizeOf56 rfl rfl hb7 rfl rfl rfl ?_
   intro w169 c170 hb7
   change Box _ _ _ (encIp _) at hb7
   have z171 := Bel.size c170
   replace hX := Bel.out hX c170 om2
   replace hXL162 := Bel.out hXL162 c170 om2
   replace hl := hl.keep c170 om3
   replace hb3 := hb3.keep c170 om1
   refine Qd (Qe ?_)
   obtain ⟨o, ho⟩ : ∃ o, o = (c.l.getD k itz) := ⟨_, rfl⟩
   rw [← ho] at hb7
   have hod := hdr o (ho ▸ gm hk1)
   apply W_draw (β := False) [peq _, peq _, peq _, peq _, peq _, peq _, peq _, peq _, peq _, peq _, peq _, peq _, peq _, peq _, peq _, peq _] 16 Q9 (by kernel_rfl) rfl ⟨Qf _, Qf _, Qf _, Qf _, Qf _, Qf _, Qf _, Qf _, Qf _, Qf _, Qf _, Qf _, Qf _, Qf _, Qf _, Qf _, trivial⟩ ?ob9 ?fin9
   case ob9 =>
    refine Qh (fun w172 x173 => ?_) ?_
    ·have z174 := x173.size
     refine Qg ?_
     exact Qt rfl (Qx underlying56 rfl sizeOf3 rfl)
    refine Qh (fun w175 x176 => ?_) ?_
    ·have z177 := x176.size
     have hb7 := hb7.ext x176
     refine Qa (Qg ?_)
     exact Qt rfl (Qn isAgg3 rfl (hb7.at.get 0 rfl))
    refine Qh (fun w178 x179 => ?_) ?_
    ·have z180 := x179.size
     refine Qg ?_
     exact Qt rfl (Qx underlying56 rfl sizeOf3 rfl)
    refine Qh (fun w181 x182 => ?_) ?_
    ·have z183 := x182.size
     have hb7 := hb7.ext x182
     refine Qa (Qg ?_)
     exact Qt rfl (Qn isAgg3 rfl (hb7.at.get 1 rfl))
    refine Qh (fun w184 x185 => ?_) ?_
    ·have z186 := x185.size
     refine Qg ?_
     exact Qt rfl (Qx underlying56 rfl sizeOf3 rfl)
    refine Qh (fun w187 x188 => ?_) ?_
    ·have z189 := x188.size
     have hb7 := hb7.ext x188
     refine Qa (Qg ?_)
     exact Qt rfl (Qn isAgg3 rfl (hb7.at.get 2 rfl))
    refine Qh (fun w190 x191 => ?_) ?_
    ·have z192 := x191.size
     refine Qg ?_
     exact Qt rfl (Qx underlying56 rfl sizeOf54 rfl)
    refine Qh (fun w193 x194 => ?_) ?_
    ·have z195 := x194.size
     have hb7 := hb7.ext x194
     refine Qa (Qg ?_)
     exact Qt rfl (Qn isAgg54 rfl (hb7.at.get 3 rfl))
    refine Qh (fun w196 x197 => ?_) ?_
    ·have z198 := x197.size
     refine Qa (Qg ?_)
     exact Qt rfl (o_convS underlying54 underlying3 rfl (wrap_in (by unfold I64; omega)))
    refine Qh (fun w199 x200 => ?_) ?_
    ·have z201 := x200.size
     refine Qa (Qa (Qa (Qa (Qg ?_))))
     exact Qt rfl (QZ (cells := encIr o) (vs := [(0, .int _ _), (1, .int _ _), (2, .int _ _), (3, .int _ _)]) rfl (by kernel_rfl))
    refine Qh (fun w202 x203 => ?_) ?_
    ·have z204 := x203.size
     refine Qg ?_
     exact Qt rfl (Qx underlying24 rfl sizeOf22 rfl)
    refine Qh (fun w205 x206 => ?_) ?_
    ·have z207 := x206.size
     have hb3 := hb3.ext x206
     refine Qa (Qg ?_)
     exact Qt rfl (Qn isAgg22 rfl (hb3.at.get 5 rfl))
    refine Qh (fun w208 x209 => ?_) ?_
    ·have z210 := x209.size
     refine Qg ?_
     exact Qt rfl (mvI rfl)
    refine Qh (fun w211 x212 => ?_) ?_
    ·have z213 := x212.size
     have hl := hl.ext x212
     refine Qa (Qa (Qg ?_))
     exact Qt rfl (Zg underlying22 sizeOf29 hl rfl rfl omg)
    refine Qh (fun w214 x215 => ?_) ?_
    ·have z216 := x215.size
     have hl := hl.ext x215
     refine Qa (Qg ?_)
     exact Qt rfl (o_ldRS isAgg29 sizeOf29 hl rfl (ho ▸ getE itz hk1))
    refine Qh (fun w217 x218 => ?_) ?_
    ·have z219 := x218.size
     refine Qa (Qa (Qg ?_))
     exact Qt rfl (o_tneq eq_ir rfl rfl)
    exact Q7
   case fin9 =>
    intro w220 x221
    have z222 := x221.size
    replace hX := hX.ex x221
    replace hXL162 := Bel.ex hXL162 x221
    refine Qa (Qa (Qa (Qa (Qa (Qa (Qa (Qa (Qa ?_))))))))
    refine Qa (Qa (Qa (Qa (Qa (Qa (Qa (Qg (Qd ?_))))))))
    refine Qr (cvB (by simp)) ?_
    refine Qu (Qc ?_)
    refine Rr (Q6 rfl rfl omg) ?_
    refine Rr (mvI rfl) ?_
    refine Qd ?_
    refine ⟨k + 1, ⟨sT, trivial⟩, oT, ⟨?_, hXL162⟩, ?_⟩
    ·show k + 1 ≤ c.l.length; omega
    ·omega
  skip
  refine QS (QL (Qe (Qc ?_)))
  refine Rr Qm ?_
  refine Qd (Qy ?_)
  refine ⟨_, Qp rfl rfl, ?_⟩
  refine ⟨cvB ?_, hX⟩
  all_goals (rfl)

