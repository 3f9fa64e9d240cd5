/- Walks: what functions return. -/
import Derived.Test.YtjnjalalkbamkaaGreatDoorWcg5
set_option linter.unusedVariables false
set_option linter.unusedSimpArgs false
set_option linter.unnecessarySimpa false
namespace Go.Proofs.YtjnjalalkbamkaaGreatDoor
open Go Go.Lx Go.RowKit Tryz
set_option maxRecDepth 100000
theorem sday10_ok (b : Nat) (p : PtV) (n : Nat) (L : List Men) (w : World) (hb : At w b 0 (ptC p)) (hp : PtIs w p n 2 L) (hd : p.day = 10) : Ok Tryz.prog 44 #[pB b] w fun v w' => v = .int .i64 10 ∧ Ext False w w' := by
 have h := sday_ok b p n L w hb hp
 rw [hd] at h
 exact h
theorem sexpl10_ok (b : Nat) (p : PtV) (w : World) (hb : At w b 0 (ptC p)) (hp : PtIs w p 3 2 mbL) (hd : p.day = 10) (u : Int) (hu : 1 ≤ u ∧ u ≤ (3 : Nat)) : Ok Tryz.prog 46 #[pB b, .int .i64 u] w fun v w' => ∃ a c, v = .agg (encSV ⟨a, c, onW mbL u 10⟩).toArray ∧ Sl encU 1 (Fsh w w') w' a c (wl (onW mbL u 10)) ∧ Ext False w w' := by
 have h := sexpl_ok b p 3 mbL w hb hp (mbL_ok 3 (Nat.le_refl _)) u hu
 rw [hd] at h
 exact h
set_option maxHeartbeats 4000000 in
theorem cstart_ok (b : Nat) (p : PtV) (q : PlV) (w : World) (hb : At w b 0 (ptC p)) (hp : PtIs w p 3 2 mbL) (hq : PlIs w q) (hT : Tb w) (hd : p.day = 10) : Ok Tryz.prog 12 #[pB b, .agg (plC q).toArray] w fun v w' => (∃ x, v = .tuple #[x, .int .i64 0] ∧ CpIs 73 (Lt w'.heap.size) w' x awC) ∧ Ext False w w' := by
 have hE : Bel False NoB w w := Bel.refl _ _
 have hTl := hT.lt
 have hbl := hb.lt
 refine Ok_of_WM 80 func12 rfl rfl rfl ?_
 have hX := xRf w
 refine Qe (Qc ?_)
 refine QJ rfl (Q4 (v := .agg _) rfl) ?_
 intro b3 w1 x2 hge3 hb3
 have hlt3 := hb3.lt
 change Box _ _ _ (id _) at hb3
 have z3 := x2.size
 replace hX := hX.ex x2
 replace hE := Bel.ex hE x2
 refine QJ rfl (Zh zeroValue32) ?_
 intro b4 w4 x5 hge4 hb4
 have hlt4 := hb4.lt
 have z6 := x5.size
 replace hX := hX.ex x5
 replace hE := Bel.ex hE x5
 replace hb3 := hb3.ext x5
 refine QJ rfl (Zh zeroValue33) ?_
 intro b5 w7 x8 hge5 hb5
 have hlt5 := hb5.lt
 have z9 := x8.size
 replace hX := hX.ex x8
 replace hE := Bel.ex hE x8
 replace hb3 := hb3.ext x8
 replace hb4 := hb4.ext x8
 refine Qd (Qe (Qe (Qc ?_)))
 refine Rr (Ql (v := .pointer _) rfl) ?_
 refine Rr (o_peq underlying40 rfl rfl) ?_
 refine Qd ?_
 refine Qr rfl ?_
 refine Qu (Qe (Qe (Qc ?_)))
 refine Rr (Ql (v := .pointer _) rfl) ?_
 refine Rr (QO isAgg50 sizeOf50 rfl hb3.at rfl) ?_
 refine Qo rfl (QM call43 rfl rfl) (Ok.mono (creg_ok b p q _ (hb.ext hE) (hp.ext hE) (hq.ext hE)) ?_)
 rintro _ w10 ⟨rfl, x11⟩
 have z12 := x11.size
 replace hX := hX.ex x11
 replace hE := Bel.ex hE x11
 replace hb3 := hb3.ext x11
 replace hb4 := hb4.ext x11
 replace hb5 := hb5.ext x11
 refine Rr (Q5 rfl) ?_
 refine Qd ?_
 refine Qr rfl ?_
 refine Qu (Qe (Qe ?_))
 apply Ze (β := False) (fun _ => 0) [peqC _, peqC _, peqC _, peqC _, peqC _, peqC _, peqC _, peqC _, peqC _, peqC _, peqC _, peqC _, peqC _, peqC _, peqC _, peqC _, peqC _] [0, 0, 0, 0, 0, 0, 0, 0, 0, 0, 0, 0, 0, 0, 0, 0, 0] 17 Q9 (by kernel_rfl) (by kernel_rfl) rfl ⟨Qi _ _, Qi _ _, Qi _ _, Qi _ _, Qi _ _, Qi _ _, Qi _ _, Qi _ _, Qi _ _, Qi _ _, Qi _ _, Qi _ _, Qi _ _, Qi _ _, Qi _ _, Qi _ _, Qi _ _, trivial⟩ ?ob5 ?fin5
 case ob5 =>
  refine Qk (fun w13 c15 x14 hc016 hk17 => ?_) ?_
  ·replace x14 := RelG.ext0 x14
   have z18 := x14.size
   have hE := Bel.ex hE x14
   refine Qj ?_
   exact Qs rfl (Qx underlying50 rfl sizeOf3 rfl)
  refine Qk (fun w19 c21 x20 hc022 hk23 => ?_) ?_
  ·replace x20 := RelG.ext0 x20
   have z24 := x20.size
   have hE := Bel.ex hE x20
   have hb3 := hb3.ext x20
   refine Qb (Qj ?_)
   exact Qs rfl (Qn isAgg3 rfl (hb3.at.get 3 rfl))
  refine Qk (fun w25 c27 x26 hc028 hk29 => ?_) ?_
  ·replace x26 := RelG.ext0 x26
   have z30 := x26.size
   have hE := Bel.ex hE x26
   refine Qj ?_
   exact Qs rfl (Ql (v := .pointer _) rfl)
  refine Qk (fun w31 c33 x32 hc034 hk35 => ?_) ?_
  ·replace x32 := RelG.ext0 x32
   have z36 := x32.size
   have hE := Bel.ex hE x32
   refine Qb (Qj ?_)
   exact OpC_call rfl (QA call44 rfl) (sday10_ok b p 3 mbL _ (hb.ext hE) (hp.ext hE) hd)
  refine Qk (fun w37 c39 x38 hc040 hk41 => ?_) ?_
  ·replace x38 := RelG.ext0 x38
   have z42 := x38.size
   have hE := Bel.ex hE x38
   refine Qb (Qb (Qj ?_))
   exact Qs rfl (QQ rfl rfl)
  refine Qk (fun w43 c45 x44 hc046 hk47 => ?_) ?_
  ·replace x44 := RelG.ext0 x44
   have z48 := x44.size
   have hE := Bel.ex hE x44
   refine Qb (Qb (Qj ?_))
   exact Qs rfl (mvB rfl)
  refine Qk (fun w49 c51 x50 hc052 hk53 => ?_) ?_
  ·replace x50 := RelG.ext0 x50
   have z54 := x50.size
   have hE := Bel.ex hE x50
   refine Qb (Qj ?_)
   refine QU 5 20 rfl (cvB (by decide)) ?_
   exact Qs rfl (Qx underlying50 rfl sizeOf3 rfl)
  refine Qk (fun w55 c57 x56 hc058 hk59 => ?_) ?_
  ·replace x56 := RelG.ext0 x56
   have z60 := x56.size
   have hE := Bel.ex hE x56
   have hb3 := hb3.ext x56
   refine Qb (Qb (Qj ?_))
   refine QU 5 20 rfl (cvB (by decide)) ?_
   exact Qs rfl (Qn isAgg3 rfl (hb3.at.get 4 rfl))
  refine Qk (fun w61 c63 x62 hc064 hk65 => ?_) ?_
  ·replace x62 := RelG.ext0 x62
   have z66 := x62.size
   have hE := Bel.ex hE x62
   refine Qb (Qj ?_)
   refine QU 5 20 rfl (cvB (by decide)) ?_
   exact Qs rfl (Qx underlying50 rfl sizeOf3 rfl)
  refine Qk (fun w67 c69 x68 hc070 hk71 => ?_) ?_
  ·replace x68 := RelG.ext0 x68
   have z72 := x68.size
   have hE := Bel.ex hE x68
   have hb3 := hb3.ext x68
   refine Qb (Qb (Qj ?_))
   refine QU 5 20 rfl (cvB (by decide)) ?_
   exact Qs rfl (Qn isAgg3 rfl (hb3.at.get 3 rfl))
  refine Qk (fun w73 c75 x74 hc076 hk77 => ?_) ?_
  ·replace x74 := RelG.ext0 x74
   have z78 := x74.size
   have hE := Bel.ex hE x74
   refine Qb (Qb (Qb (Qj ?_)))
   refine QU 5 20 rfl (cvB (by decide)) ?_
   exact Qs rfl (o_leq rfl rfl)
  refine Qk (fun w79 c81 x80 hc082 hk83 => ?_) ?_
  ·replace x80 := RelG.ext0 x80
   have z84 := x80.size
   have hE := Bel.ex hE x80
   refine Qb (Qb (Qj ?_))
   exact Qs rfl (Q3 (v := .bool _) (cvB (by decide)) rfl)
  refine Qk (fun w85 c87 x86 hc088 hk89 => ?_) ?_
  ·replace x86 := RelG.ext0 x86
   have z90 := x86.size
   have hE := Bel.ex hE x86
   refine Qb (Qb (Qj ?_))
   exact Qs rfl (mvB rfl)
  refine Qk (fun w91 c93 x92 hc094 hk95 => ?_) ?_
  ·replace x92 := RelG.ext0 x92
   have z96 := x92.size
   have hE := Bel.ex hE x92
   refine Qb (Qj ?_)
   refine QU 12 27 rfl (cvB (by decide)) ?_
   exact Qs rfl (Qx underlying50 rfl sizeOf3 rfl)
  refine Qk (fun w97 c99 x98 hc0100 hk101 => ?_) ?_
  ·replace x98 := RelG.ext0 x98
   have z102 := x98.size
   have hE := Bel.ex hE x98
   have hb3 := hb3.ext x98
   refine Qb (Qb (Qj ?_))
   refine QU 12 27 rfl (cvB (by decide)) ?_
   exact Qs rfl (Qn isAgg3 rfl (hb3.at.get 4 rfl))
  refine Qk (fun w103 c105 x104 hc0106 hk107 => ?_) ?_
  ·replace x104 := RelG.ext0 x104
   have z108 := x104.size
   have hE := Bel.ex hE x104
   refine Qb (Qb (Qj ?_))
   refine QU 12 27 rfl (cvB (by decide)) ?_
   exact Qs rfl (o_gtr rfl rfl)
  refine Qk (fun w109 c111 x110 hc0112 hk113 => ?_) ?_
  ·replace x110 := RelG.ext0 x110
   have z114 := x110.size
   have hE := Bel.ex hE x110
   refine Qb (Qb (Qj ?_))
   exact Qs rfl (Q3 (v := .bool _) (cvB (by decide)) rfl)
  exact Q8
 case fin5 =>
  intro w115 c117 x116 hc0118
  replace x116 := RelG.ext0 x116
  have z119 := x116.size
  replace hX := hX.ex x116
  replace hE := Bel.ex hE x116
  replace hb3 := hb3.ext x116
  replace hb4 := hb4.ext x116
  replace hb5 := hb5.ext x116
  refine Qb (Qb (Qb (Qb (Qb (Qb (Qb (Qb (Qb ?_))))))))
  refine Qb (Qb (Qb (Qb (Qb (Qb (Qb (Qb (Qj ?_))))))))
  refine Qd ?_
  refine Qr (cvB (by decide)) ?_
  refine Qu (Qe ?_)
  obtain ⟨n1, hn1⟩ : ∃ n, n = w115.heap.size := ⟨_, rfl⟩
  apply Ze (β := False) (fun _ => 0) [peqC _, peqC _, peqC _, peqC _, peqC _, peqC _, peqC _, peqC _, peqC _, peqC _, peqC _, (postBox w115 73 (cgC (⟨10, 12, 15, 3, false, []⟩ : Cpg) (.slice none 0 0))), (postBoxK w115 32 [.pointer none] 1), (postBoxU w115 32 (fun u => [u]) (PtrIs n1 73 (cgC (⟨10, 12, 15, 3, false, []⟩ : Cpg) (.slice none 0 0))) 1)] [0, 0, 0, 0, 0, 0, 0, 0, 0, 0, 0, 0, 1, 1] 14 Q9 (by kernel_rfl) (by kernel_rfl) rfl ⟨Qi _ _, Qi _ _, Qi _ _, Qi _ _, Qi _ _, Qi _ _, Qi _ _, Qi _ _, Qi _ _, Qi _ _, Qi _ _, (postBox_stable), (postBoxK_stable), (postBoxU_stable (PtrIs.keepS _ _ _)), trivial⟩ ?ob7 ?fin7
  case ob7 =>
   refine Qk (fun w120 c122 x121 hc0123 hk124 => ?_) ?_
   ·replace x121 := RelG.ext0 x121
    have z125 := x121.size
    have hE := Bel.ex hE x121
    refine Qj ?_
    exact Qs rfl (Ql (v := .pointer _) rfl)
   refine Qk (fun w126 c128 x127 hc0129 hk130 => ?_) ?_
   ·replace x127 := RelG.ext0 x127
    have z131 := x127.size
    have hE := Bel.ex hE x127
    refine Qb (Qj ?_)
    exact OpC_call rfl (QA call44 rfl) (sday10_ok b p 3 mbL _ (hb.ext hE) (hp.ext hE) hd)
   refine Qk (fun w132 c134 x133 hc0135 hk136 => ?_) ?_
   ·replace x133 := RelG.ext0 x133
    have z137 := x133.size
    have hE := Bel.ex hE x133
    refine Qj ?_
    exact Qs rfl (Qx underlying50 rfl sizeOf3 rfl)
   refine Qk (fun w138 c140 x139 hc0141 hk142 => ?_) ?_
   ·replace x139 := RelG.ext0 x139
    have z143 := x139.size
    have hE := Bel.ex hE x139
    have hb3 := hb3.ext x139
    refine Qb (Qj ?_)
    exact Qs rfl (Qn isAgg3 rfl (hb3.at.get 3 rfl))
   refine Qk (fun w144 c146 x145 hc0147 hk148 => ?_) ?_
   ·replace x145 := RelG.ext0 x145
    have z149 := x145.size
    have hE := Bel.ex hE x145
    refine Qj ?_
    exact Qs rfl (Qx underlying50 rfl sizeOf3 rfl)
   refine Qk (fun w150 c152 x151 hc0153 hk154 => ?_) ?_
   ·replace x151 := RelG.ext0 x151
    have z155 := x151.size
    have hE := Bel.ex hE x151
    have hb3 := hb3.ext x151
    refine Qb (Qj ?_)
    exact Qs rfl (Qn isAgg3 rfl (hb3.at.get 4 rfl))
   refine Qk (fun w156 c158 x157 hc0159 hk160 => ?_) ?_
   ·replace x157 := RelG.ext0 x157
    have z161 := x157.size
    have hE := Bel.ex hE x157
    refine Qj ?_
    exact Qs rfl (Qx underlying50 rfl sizeOf3 rfl)
   refine Qk (fun w162 c164 x163 hc0165 hk166 => ?_) ?_
   ·replace x163 := RelG.ext0 x163
    have z167 := x163.size
    have hE := Bel.ex hE x163
    have hb3 := hb3.ext x163
    refine Qb (Qj ?_)
    exact Qs rfl (Qn isAgg3 rfl (hb3.at.get 2 rfl))
   refine Qk (fun w168 c170 x169 hc0171 hk172 => ?_) ?_
   ·replace x169 := RelG.ext0 x169
    have z173 := x169.size
    have hE := Bel.ex hE x169
    refine Qj ?_
    exact Qs rfl (Qx underlying50 rfl sizeOf4 rfl)
   refine Qk (fun w174 c176 x175 hc0177 hk178 => ?_) ?_
   ·replace x175 := RelG.ext0 x175
    have z179 := x175.size
    have hE := Bel.ex hE x175
    have hb3 := hb3.ext x175
    refine Qb (Qj ?_)
    exact Qs rfl (Qn isAgg4 rfl (hb3.at.get 5 rfl))
   refine Qk (fun w180 c182 x181 hc0183 hk184 => ?_) ?_
   ·replace x181 := RelG.ext0 x181
    have z185 := x181.size
    have hE := Bel.ex hE x181
    refine Qb (Qb (Qb (Qb (Qb (Qj ?_)))))
    exact Qs rfl (QZ (cells := cgC (⟨10, 12, 15, 3, false, []⟩ : Cpg) (.slice none 0 0)) (vs := [(0, .int _ _), (1, .int _ _), (2, .int _ _), (3, .int _ _), (4, .bool _)]) rfl (by kernel_rfl))
   refine Qk (fun w186 c188 x187 hc0189 hk190 => ?_) ?_
   ·replace x187 := RelG.ext0 x187
    have z191 := x187.size
    have hE := Bel.ex hE x187
    refine Qb (Qj ?_)
    exact OpC_box (Bel.size x187) rfl (Q4 (v := .agg _) rfl)
   refine Qk (fun w192 c194 x193 hc0195 hk196 => ?_) ?_
   ·replace x193 := RelG.ext0 x193
    have z197 := x193.size
    have hE := Bel.ex hE x193
    refine Qj ?_
    exact OpC_boxK (kc := 1) (Bel.size x193) rfl (Zh zeroValue32)
   refine Qk (fun w198 c200 x199 hc0201 hk202 => ?_) ?_
   ·replace x199 := RelG.ext0 x199
    have z203 := x199.size
    have hE := Bel.ex hE x199
    refine Qw (fun v6 hv6 => ?_)
    obtain ⟨b6, rfl, hge6, hb6, hcb6⟩ := hv6
    refine Qw (fun v43 hv43 => ?_)
    obtain ⟨b43, rfl, hge43, hb43, hcb43⟩ := hv43
    refine Qb (Qb (Qb (Qb (Qb (Qb (Qb (Qb (Qb ?_))))))))
    refine Qb (Qb (Qb ?_))
    refine Qw (fun v43 hv43 => ?_)
    obtain ⟨b43, rfl, hge43, hb43, hcb43⟩ := hv43
    refine Qw (fun v6 hv6 => ?_)
    obtain ⟨b6, rfl, hge6, hb6, hcb6⟩ := hv6
    refine Qj ?_
    exact postBoxU_of (f := fun u => [u]) (u := pB b43) (PtrIs.keepS _ _ _) (OpC_storeLk (v := .pointer _) (by decide) sizeOf32 rfl rfl hge6 hb6 hcb6 rfl rfl rfl) rfl (F' := fun g => g = b43) (by rintro g rfl; exact ⟨hb43.lt, hcb43⟩) ⟨b43, rfl, by omega, rfl, hb43⟩
   exact Q8
  case fin7 =>
   intro w204 c206 x205 hc0207
   replace x205 := RelG.ext0 x205
   have z208 := x205.size
   replace hX := hX.ex x205
   replace hE := Bel.ex hE x205
   replace hb3 := hb3.ext x205
   replace hb4 := hb4.ext x205
   replace hb5 := hb5.ext x205
   refine Qb (Qb (Qb (Qb (Qb (Qb (Qb (Qb (Qb ?_))))))))
   refine Qb (Qb ?_)
   refine Qw (fun v43 hv43 => ?_)
   obtain ⟨b43, rfl, hge43, hb43, hcb43⟩ := hv43
   refine Qw (fun v6 _ => ?_)
   refine bindC_lk (v := v6) rfl (fun hst13 => ?_)
   refine Qj ?_
   obtain ⟨b6, rfl, hge6, hcb6, u6, hb6, F6, hF6, b43, rfl, hn43, hF43, hb43⟩ := hst13
   have hlt43 := hb43.lt
   have hlt6 := hb6.lt
   have hne43 : b43 ≠ b6 := fun e => by have := (hF6 _ hF43).2; rw [e, hcb6] at this; cases this
   have hlt6 := hb6.lt
   refine Qd (Qe (Qe (Qc ?_)))
   obtain ⟨n2, hn2⟩ : ∃ n, n = w204.heap.size := ⟨_, rfl⟩
   refine Rg_alst rfl rfl zeroValue3 rfl sizeOf3 (fun _ => rfl) rfl rfl ?_
   intro b7 w209 x210 hge7 hb7
   have hlt7 := hb7.lt
   have z211 := x210.size
   replace hX := hX.ex x210
   replace hE := Bel.ex hE x210
   replace hb3 := hb3.ext x210
   replace hb4 := hb4.ext x210
   replace hb5 := hb5.ext x210
   replace hb6 := hb6.ext x210
   replace hb43 := hb43.ext x210
   refine Qd (QB ?_)
   refine W_forD (α := Nat × Nat × Value × Nat × Nat × List Nat) [(7, 7), (44, 56), (78, 78)] (fun q => [(7, .pointer (some ⟨q.1, 0, none⟩))]) (fun q => q.2.2.2.2.2) (fun q w' => (q.2.1 ≤ 3 ∧ n2 ≤ q.1 ∧ n2 ≤ q.2.2.2.1 ∧ ¬ (q.2.2.2.1 ≤ q.1 ∧ q.1 < q.2.2.2.2.1) ∧ ∀ m, m ∈ q.2.2.2.2.2 → n2 ≤ m ∧ ¬ (q.2.2.2.1 ≤ m ∧ m < q.2.2.2.2.1)) ∧ Bel False (fun g => g = b43 ∨ n2 ≤ g) w209 w' ∧ (At w' q.1 0 [.int .i64 ((q.2.1 + 1 : Nat) : Int)] ∧ Box w' b43 73 (cgC (⟨10, 12, 15, 3, false, []⟩ : Cpg) q.2.2.1) ∧ Own encIp 4 56 (fun g => q.2.2.2.1 ≤ g ∧ g < q.2.2.2.2.1) w' q.2.2.1 (itsU q.2.1) ∧ q.2.2.2.2.1 ≤ w'.heap.size ∧ Mks w' q.2.2.2.2.2)) (fun q => 3 - q.2.1) (b7, 0, .slice none 0 0, n2, n2, []) ⟨rfl, trivial⟩ rfl ⟨⟨Nat.zero_le _, by simp only; omega, Nat.le_refl _, by simp only; omega, fun m h => absurd h (by simp)⟩, Bel.refl _ _, ⟨hb7.at, hb43, Own.nil _ _, by simp only; omega, trivial⟩⟩ ?_
   rintro ⟨bu, k, t, bt, et, ms⟩ fb214 w213 ⟨⟨hk, hbu, hbt, hbte, hms⟩, hXL212, ⟨hbu7, hb43, hownt, het, hmk⟩⟩
   dsimp only at *
   have z215 := Bel.size hXL212
   replace hX := Bel.out hX hXL212 om2
   replace hE := Bel.out hE hXL212 om2
   replace hb3 := hb3.keep hXL212 om1
   replace hb4 := hb4.keep hXL212 om1
   replace hb5 := hb5.keep hXL212 om1
   replace hb6 := hb6.keep hXL212 om1
   have hlu7 := hbu7.lt
   refine Qe (Qe ?_)
   apply W_draw (β := False) [peq _, peq _, peq _, peq _] 4 Q9 (by kernel_rfl) rfl ⟨Qf _, Qf _, Qf _, Qf _, trivial⟩ ?ob9 ?fin9
   case ob9 =>
    refine Qh (fun w216 x217 => ?_) ?_
    ·have z218 := x217.size
     have hE := Bel.ex hE x217
     have hbu7 := hbu7.ext x217
     have hmk := Mks.ext hmk x217
     refine Qg ?_
     exact Qt rfl (Qn isAgg3 rfl (hbu7.get 0 rfl))
    refine Qh (fun w219 x220 => ?_) ?_
    ·have z221 := x220.size
     have hE := Bel.ex hE x220
     have hmk := Mks.ext hmk x220
     refine Qg ?_
     exact Qt rfl (Ql (v := .pointer _) rfl)
    refine Qh (fun w222 x223 => ?_) ?_
    ·have z224 := x223.size
     have hE := Bel.ex hE x223
     have hmk := Mks.ext hmk x223
     refine Qa (Qg ?_)
     exact OpS_call rfl (QA call45 rfl) (susers_ok b p 3 mbL _ (hb.ext hE) (hp.ext hE))
    refine Qh (fun w225 x226 => ?_) ?_
    ·have z227 := x226.size
     have hE := Bel.ex hE x226
     have hmk := Mks.ext hmk x226
     refine Qa (Qa (Qg ?_))
     exact Qt rfl (o_leq rfl rfl)
    exact Q7
   case fin9 =>
    intro w228 x229
    have z230 := x229.size
    replace hX := hX.ex x229
    replace hXL212 := Bel.ex hXL212 x229
    replace hE := Bel.ex hE x229
    replace hb3 := hb3.ext x229
    replace hb4 := hb4.ext x229
    replace hb5 := hb5.ext x229
    replace hb6 := hb6.ext x229
    replace hbu7 := hbu7.ext x229
    replace hb43 := hb43.ext x229
    replace hownt := hownt.ext x229
    replace hmk := Mks.ext hmk x229
    refine Qa (Qa (Qa (Qa (Qg (Qd ?_)))))
    refine QD rfl (fun hc4 => ?_) (fun hc4 => ?_)
    ·have hk3 : k < 3 := by have h := dcT hc4; omega
     refine Qu (Qe (QB (Qe ?_)))
     obtain ⟨n3, hn3⟩ : ∃ n, n = w228.heap.size := ⟨_, rfl⟩
     apply W_draw (β := False) [peq _, peq _, (postSV (fun g => n3 ≤ g) (onW mbL ((k + 1 : Nat) : Int) 10)), peq _, peq _, (postSV (fun g => n3 ≤ g) (exW k)), (fun v w => ∃ z a c, v = .func (.func 88) #[] #[.pointer (some ⟨z, 0, none⟩)] ∧ n3 ≤ z ∧ At w z 0 (encSV ⟨a, c, exW k⟩) ∧ Sl encU 1 (fun g => n3 ≤ g) w a c (wl (exW k)))] 7 Q9 (by kernel_rfl) rfl ⟨Qf _, Qf _, (postSV_stable _ _), Qf _, Qf _, (postSV_stable _ _), ((by rintro v w w2 ⟨z, a, c, h1, h2, h3, h4⟩ x; exact ⟨z, a, c, h1, h2, h3.ext x, h4.ext x⟩)), trivial⟩ ?ob11 ?fin11
     case ob11 =>
      refine Qh (fun w231 x232 => ?_) ?_
      ·have z233 := x232.size
       have hE := Bel.ex hE x232
       have hmk := Mks.ext hmk x232
       refine Qg ?_
       exact Qt rfl (Ql (v := .pointer _) rfl)
      refine Qh (fun w234 x235 => ?_) ?_
      ·have z236 := x235.size
       have hE := Bel.ex hE x235
       have hbu7 := hbu7.ext x235
       have hmk := Mks.ext hmk x235
       refine Qg ?_
       exact Qt rfl (Qn isAgg3 rfl (hbu7.get 0 rfl))
      refine Qh (fun w237 x238 => ?_) ?_
      ·have z239 := x238.size
       have hE := Bel.ex hE x238
       have hmk := Mks.ext hmk x238
       refine Qa (Qa (Qg ?_))
       exact OpS_mem rfl (QM call46 rfl rfl) ((sexpl10_ok b p _ (hb.ext hE) (hp.ext hE) hd ((k + 1 : Nat) : Int) (by omega)).mono (fun v w2 ⟨a, c, e, h, x⟩ => ⟨x, a, c, e, h.mono (fun g h1 h2 => by omega)⟩))
      refine Qh (fun w240 x241 => ?_) ?_
      ·have z242 := x241.size
       have hE := Bel.ex hE x241
       have hmk := Mks.ext hmk x241
       refine Qg ?_
       exact Qt rfl (Qx underlying50 rfl sizeOf45 rfl)
      refine Qh (fun w243 x244 => ?_) ?_
      ·have z245 := x244.size
       have hE := Bel.ex hE x244
       have hb3 := hb3.ext x244
       have hmk := Mks.ext hmk x244
       refine Qa (Qg ?_)
       exact Qt rfl (QO isAgg45 sizeOf45 rfl (hb3.at.sub 0 1) rfl)
      refine Qh (fun w246 x247 => ?_) ?_
      ·have z248 := x247.size
       have hE := Bel.ex hE x247
       have hmk := Mks.ext hmk x247
       refine bindP_mem (fun v52 hv52 => ?_)
       obtain ⟨a52, c52, rfl, hq52⟩ := hv52
       refine Qa ?_
       refine bindP_mem (fun v52 hv52 => ?_)
       obtain ⟨a52, c52, rfl, hq52⟩ := hv52
       refine Qg ?_
       exact OpS_mem rfl (QM call47 rfl rfl) ((band_ok _ ⟨a52, c52, onW mbL ((k + 1 : Nat) : Int) 10⟩ _ hq52 ⟨q.sa, q.sc, 6⟩ _ (hq.ext hE).s).mono (fun v w2 ⟨a, c, e, h, x⟩ => ⟨x, a, c, e, h.mono (fun g h1 h2 => by omega)⟩))
      refine Qh (fun w249 x250 => ?_) ?_
      ·have z251 := x250.size
       have hE := Bel.ex hE x250
       have hmk := Mks.ext hmk x250
       refine bindP_mem (fun v55 hv55 => ?_)
       obtain ⟨a55, c55, rfl, hq55⟩ := hv55
       refine bindP_mem (fun v55 hv55 => ?_)
       obtain ⟨a55, c55, rfl, hq55⟩ := hv55
       refine Qg ?_
       exact OpS_mem rfl (QA call48 rfl) ((ball_ok _ ⟨a55, c55, exW k⟩ _ hq55).mono (fun v w2 ⟨z, e, h, h2, y⟩ => ⟨y, z, a55, c55, e, by omega, h2, hq55.ext y⟩))
      exact Q7
     case fin11 =>
      intro w252 x253
      have z254 := x253.size
      replace hX := hX.ex x253
      replace hXL212 := Bel.ex hXL212 x253
      replace hE := Bel.ex hE x253
      replace hb3 := hb3.ext x253
      replace hb6 := hb6.ext x253
      replace hbu7 := hbu7.ext x253
      replace hb43 := hb43.ext x253
      replace hownt := hownt.ext x253
      replace hmk := Mks.ext hmk x253
      refine Qa (Qa ?_)
      refine bindP_mem (fun v52 hv52 => ?_)
      obtain ⟨a52, c52, rfl, hq52⟩ := hv52
      refine Qa (Qa ?_)
      refine bindP_mem (fun v55 hv55 => ?_)
      obtain ⟨a55, c55, rfl, hq55⟩ := hv55
      refine bindP_mem (fun v56 hv56 => ?_)
      obtain ⟨b56, a56, c56, rfl, hge56, hb56, hq56⟩ := hv56
      have hlt56 := hb56.lt
      refine Qg (Qd (QB ?_))
      obtain ⟨m0, hm0⟩ : ∃ m, m = w252.heap.size := ⟨_, rfl⟩
      have hmlt : ∀ t, t ∈ ms → t < m0 := fun t ht => by have := Mks.lt hmk t ht; omega
      replace hq56 := hq56.mono (F' := fun g => n3 ≤ g ∧ g < m0) (fun g h1 h2 => ⟨h2, by omega⟩)
      refine W_range (memW (exW k) 64) (fun i => Value.int .i64 i) (fun g => g = b43 ∨ (bt ≤ g ∧ g < et) ∨ m0 + 2 ≤ g) (fun i w' => Bel False (fun g => g = b43 ∨ (bt ≤ g ∧ g < et) ∨ m0 + 2 ≤ g) w252 w' ∧ ∃ t2 : Value, Box w' b43 73 (cgC (⟨10, 12, 15, 3, false, []⟩ : Cpg) t2) ∧ Own encIp 4 56 (fun g => (bt ≤ g ∧ g < et) ∨ m0 + 2 ≤ g) w' t2 (itsU k ++ ((memW (exW k) 64).take i).map (itm ((k + 1 : Nat) : Int)))) rfl rfl call88 (ball_iter _ _ ⟨a56, c56, exW k⟩ _ _ hb56 hq56 (hT.ext hE) (by omega) (by omega) (fun g h1 h2 h3 => by omega)) (fun g h => by omega) (fun i a b hsz hi x => ?_) (fun a x hsz => ?_) (fun l i y w255 hy hsz hi => ?_) (fun w256 hsz hi hmkm0 => ?_)
      ·obtain ⟨hB, ⟨t2, hb43, hownt⟩⟩ := hi; exact ⟨Bel.out hB x (fun g h1 h2 => by omega), _, hb43.keep x (by omega), hownt.keepD x (fun g h1 h2 h3 => by omega)⟩
      ·exact ⟨x.mono fun _ _ h => h.elim, t, hb43.ext x, (by simpa using (hownt.mono (fun g h1 h2 => Or.inl h2)).ext x)⟩
      ·obtain ⟨hXR257, ⟨t2, hb43, hownt⟩⟩ := hi
       have z258 := Bel.size hXR257
       replace hX := Bel.out hX hXR257 om2
       replace hXL212 := Bel.out hXL212 hXR257 om2
       replace hE := Bel.out hE hXR257 om2
       replace hb3 := hb3.keep hXR257 om1
       replace hb6 := hb6.keep hXR257 om1
       replace hbu7 := hbu7.keep hXR257 om1
       refine Qc ?_
       refine Rr (asI rfl) ?_
       refine Qd ?_
       refine ⟨Ext.rfl' _, fun w259 x260 => ?_⟩
       have z261 := x260.size
       replace hE := Bel.out hE x260 om2
       replace hb3 := hb3.keep x260 om1
       replace hb6 := hb6.keep x260 om1
       replace hbu7 := hbu7.keep x260 om1
       replace hb43 := hb43.keep x260 om1
       replace hownt := hownt.keepD x260 om3
       have hXB : Bel False (fun g => g = b43 ∨ (bt ≤ g ∧ g < et) ∨ m0 + 2 ≤ g) w259 w259 := Bel.refl _ _
       refine QB (Qe (Qe (Qc ?_)))
       refine Rr (Qn isAgg3 rfl (hbu7.get 0 rfl)) ?_
       refine Rr (Qx underlying50 rfl sizeOf3 rfl) ?_
       refine Rr (Qn isAgg3 rfl (hb3.at.get 2 rfl)) ?_
       refine Rr (Q0 rfl rfl) ?_
       refine Qd ?_
       refine Qr (cvB (neF (ex_ne k hk3 i y hy))) ?_
       refine Qu ?_
       obtain ⟨n5, hn5⟩ : ∃ n, n = w259.heap.size := ⟨_, rfl⟩
       apply Ze (β := False) (fun b => if (bt ≤ b ∧ b < et) ∨ m0 + 2 ≤ b then 1 else 0) [peqC _, peqC _, peqC _, peqC _, peqC _, peqC _, peqC _, peqC _, peqC _, peqC _, peqC _, peqC _, (fun v w cc => ∃ a, v = .slice a 1 1 ∧ postOwn encIp 4 56 0 [itm ((k + 1 : Nat) : Int) y] v w cc), (postOwn encIp 4 56 1 ((itsU k ++ ((memW (exW k) 64).take i).map (itm ((k + 1 : Nat) : Int))) ++ [itm ((k + 1 : Nat) : Int) y]))] [0, 0, 0, 0, 0, 0, 0, 0, 0, 0, 0, 0, 0, 1] 14 Q9 (by kernel_rfl) (by kernel_rfl) rfl ⟨Qi _ _, Qi _ _, Qi _ _, Qi _ _, Qi _ _, Qi _ _, Qi _ _, Qi _ _, Qi _ _, Qi _ _, Qi _ _, Qi _ _, (postBs_stable), (Q1), trivial⟩ ?ob15 ?fin15
       case ob15 =>
        refine Qk (fun w262 c264 x263 hc0265 hk266 => ?_) ?_
        ·replace x263 := Bel.mono x263 (D' := fun g => (bt ≤ g ∧ g < et) ∨ m0 + 2 ≤ g) omC
         have z267 := x263.size
         have hE := Bel.out hE x263 om2
         have hb6 := hb6.keep x263 om1
         refine Qj ?_
         exact Qs rfl (Qn isAgg32 rfl (hb6.at.get 0 rfl))
        refine Qk (fun w268 c270 x269 hc0271 hk272 => ?_) ?_
        ·replace x269 := Bel.mono x269 (D' := fun g => (bt ≤ g ∧ g < et) ∨ m0 + 2 ≤ g) omC
         have z273 := x269.size
         have hE := Bel.out hE x269 om2
         have hb6 := hb6.keep x269 om1
         refine Qj ?_
         exact Qs rfl (Qn isAgg32 rfl (hb6.at.get 0 rfl))
        refine Qk (fun w274 c276 x275 hc0277 hk278 => ?_) ?_
        ·replace x275 := Bel.mono x275 (D' := fun g => (bt ≤ g ∧ g < et) ∨ m0 + 2 ≤ g) omC
         have z279 := x275.size
         have hE := Bel.out hE x275 om2
         refine Qb (Qj ?_)
         exact Qs rfl (QG rfl)
        refine Qk (fun w280 c282 x281 hc0283 hk284 => ?_) ?_
        ·replace x281 := Bel.mono x281 (D' := fun g => (bt ≤ g ∧ g < et) ∨ m0 + 2 ≤ g) omC
         have z285 := x281.size
         have hE := Bel.out hE x281 om2
         refine Qb (Qj ?_)
         exact Qs rfl (Qx underlying73 rfl sizeOf53 rfl)
        refine Qk (fun w286 c288 x287 hc0289 hk290 => ?_) ?_
        ·replace x287 := Bel.mono x287 (D' := fun g => (bt ≤ g ∧ g < et) ∨ m0 + 2 ≤ g) omC
         have z291 := x287.size
         have hE := Bel.out hE x287 om2
         have hb43 := hb43.keep x287 om1
         refine Qb (Qj ?_)
         exact Qs rfl (Qn isAgg53 rfl (hb43.at.get 5 rfl))
        refine Qk (fun w292 c294 x293 hc0295 hk296 => ?_) ?_
        ·replace x293 := Bel.mono x293 (D' := fun g => (bt ≤ g ∧ g < et) ∨ m0 + 2 ≤ g) omC
         have z297 := x293.size
         have hE := Bel.out hE x293 om2
         have hbu7 := hbu7.keep x293 om1
         refine Qj ?_
         exact Qs rfl (Qn isAgg3 rfl (hbu7.get 0 rfl))
        refine Qk (fun w298 c300 x299 hc0301 hk302 => ?_) ?_
        ·replace x299 := Bel.mono x299 (D' := fun g => (bt ≤ g ∧ g < et) ∨ m0 + 2 ≤ g) omC
         have z303 := x299.size
         have hE := Bel.out hE x299 om2
         refine Qj ?_
         exact Qs rfl (mvI rfl)
        refine Qk (fun w304 c306 x305 hc0307 hk308 => ?_) ?_
        ·replace x305 := Bel.mono x305 (D' := fun g => (bt ≤ g ∧ g < et) ∨ m0 + 2 ≤ g) omC
         have z309 := x305.size
         have hE := Bel.out hE x305 om2
         have hb3 := hb3.keep x305 om1
         refine Qj ?_
         exact Qs rfl (QO isAgg50 sizeOf50 rfl hb3.at rfl)
        refine Qk (fun w310 c312 x311 hc0313 hk314 => ?_) ?_
        ·replace x311 := Bel.mono x311 (D' := fun g => (bt ≤ g ∧ g < et) ∨ m0 + 2 ≤ g) omC
         have z315 := x311.size
         have hE := Bel.out hE x311 om2
         have hbu7 := hbu7.keep x311 om1
         refine Qj ?_
         exact Qs rfl (Qn isAgg3 rfl (hbu7.get 0 rfl))
        refine Qk (fun w316 c318 x317 hc0319 hk320 => ?_) ?_
        ·replace x317 := Bel.mono x317 (D' := fun g => (bt ≤ g ∧ g < et) ∨ m0 + 2 ≤ g) omC
         have z321 := x317.size
         have hE := Bel.out hE x317 om2
         refine Qj ?_
         exact Qs rfl (mvI rfl)
        refine Qk (fun w322 c324 x323 hc0325 hk326 => ?_) ?_
        ·replace x323 := Bel.mono x323 (D' := fun g => (bt ≤ g ∧ g < et) ∨ m0 + 2 ≤ g) omC
         have z327 := x323.size
         have hE := Bel.out hE x323 om2
         refine Qb (Qb (Qb (Qj ?_)))
         exact OpC_call rfl (o_call3 call49 rfl rfl rfl) (crev_ok q ((k + 1 : Nat) : Int) y _ (hq.ext hE))
        refine Qk (fun w328 c330 x329 hc0331 hk332 => ?_) ?_
        ·replace x329 := Bel.mono x329 (D' := fun g => (bt ≤ g ∧ g < et) ∨ m0 + 2 ≤ g) omC
         have z333 := x329.size
         have hE := Bel.out hE x329 om2
         refine Qb (Qb (Qb (Qj ?_)))
         exact Qs rfl (QZ (cells := encIp (itm ((k + 1 : Nat) : Int) y)) (vs := [(0, .int _ _), (1, .int _ _), (2, .int _ _), (3, .int _ _)]) rfl (by kernel_rfl))
        refine Qk (fun w334 c336 x335 hc0337 hk338 => ?_) ?_
        ·replace x335 := Bel.mono x335 (D' := fun g => (bt ≤ g ∧ g < et) ∨ m0 + 2 ≤ g) omC
         have z339 := x335.size
         have hE := Bel.out hE x335 om2
         refine Qb (Qj ?_)
         exact OpC_bs (vs := [.agg _]) [itm ((k + 1 : Nat) : Int) y] Zc el_ip rfl rfl ⟨rfl, trivial⟩ rfl rfl rfl rfl
        refine Qk (fun w340 c342 x341 hc0343 hk344 => ?_) ?_
        ·replace x341 := Bel.mono x341 (D' := fun g => (bt ≤ g ∧ g < et) ∨ m0 + 2 ≤ g) omC
         have z345 := x341.size
         have hE := Bel.out hE x341 om2
         refine Qb ?_
         refine Qw (fun v74 hv74 => ?_)
         obtain ⟨a74, rfl, ho74⟩ := hv74
         refine Qb (Qj ?_)
         exact OpC_app (by decide) Zc el_ip rfl rfl (((hownt.mono (D' := fun g => ((bt ≤ g ∧ g < et) ∨ m0 + 2 ≤ g) ∧ g < n5) (fun g h1 h2 => ⟨h2, by omega⟩)).ext (Bel.exV x341 (fun b hb hd => hk344 1 (by decide) (by kernel_rfl) b hb (if_pos hd)))).mono (fun g hg h => (hc0343 g (by omega)).trans (if_pos h.1))) (Own.slA ho74 Zc) rfl (by have h1 := its_len k hk3; simp only [List.length_append, List.length_map, List.length_take, List.length_singleton]; omega)
        exact Q8
       case fin15 =>
        intro w346 c348 x347 hc0349
        replace x347 := Bel.mono x347 (D' := fun g => (bt ≤ g ∧ g < et) ∨ m0 + 2 ≤ g) omC
        have z350 := x347.size
        replace hXB := Bel.out hXB x347 om2
        replace hE := Bel.out hE x347 om2
        replace hb43 := hb43.keep x347 om1
        refine Qb (Qb (Qb (Qb (Qb (Qb (Qb (Qb (Qb ?_))))))))
        refine Qb (Qb (Qb ?_))
        refine Qw (fun v74 hv74 => ?_)
        obtain ⟨a74, rfl, ho74⟩ := hv74
        refine Qw (fun v75 hv75 => ?_)
        refine Qj ?_
        change Own _ _ _ _ _ _ _ at hv75
        have hownt := Own.mono hv75 (D' := fun g => (bt ≤ g ∧ g < et) ∨ m0 + 2 ≤ g) (fun g h1 h2 => Classical.byContradiction fun hn => by have hlt : g < n5 := Nat.lt_of_not_le (fun hq => hn (by omega)); have h : _ = (if (bt ≤ g ∧ g < et) ∨ m0 + 2 ≤ g then 1 else 0) := hc0349 g (by omega); rw [h2, if_neg hn] at h; cases h)
        obtain ⟨a75, c75, hva75, -⟩ := hownt.sl Zc
        subst hva75
        refine Rr (QG rfl) ?_
        refine Rr (Qx underlying73 rfl sizeOf53 rfl) ?_
        refine QY (v := .slice _ _ _) rfl sizeOf53 rfl rfl hb43 rfl rfl rfl ?_
        intro w351 c352 hb43
        change Box _ _ _ ([.int _ _, .int _ _, .int _ _, .int _ _, .bool _, .slice _ _ _]) at hb43
        have z353 := Bel.size c352
        replace hXB := Bel.out hXB c352 om2
        replace hE := Bel.out hE c352 om2
        replace hownt := hownt.keepD c352 om3
        refine Qd ?_
        refine ⟨hXB, Bel.out (Bel.out hXR257 x260 (fun g h1 h2 => by omega)) hXB (fun g h1 h2 => by first | exact h2 | omega), ?_⟩
        rw [map_takeA hy, ← List.append_assoc]; exact ⟨_, hb43, hownt⟩
      obtain ⟨hXR354, ⟨t2, hb43, hownt⟩⟩ := hi
      have z355 := Bel.size hXR354
      replace hX := Bel.out hX hXR354 om2
      replace hXL212 := Bel.out hXL212 hXR354 om2
      replace hE := Bel.out hE hXR354 om2
      replace hbu7 := hbu7.keep hXR354 om1
      replace hmk := hmk.kp hXR354 (fun g h1 h2 => by first | (have := hms g h1; first | omega | (have := hmlt g h1; omega)) | (rcases List.mem_cons.1 h1 with e | h1 <;> first | omega | (have := hmlt g h1; omega)))
      rw [List.take_length, ← itsU_succ] at hownt
      rw [← hm0]
      replace hmk : Mks w256 (m0 :: ms) := ⟨fun h => Nat.lt_irrefl _ (hmlt _ h), (congrArg (fun k => w256.heap[k]?) hm0).trans hmkm0, hmk⟩
      refine Qe (Qe (Qc ?_))
      obtain ⟨bt2, et2, hiv, het2, hownt2⟩ := hownt.iv n2 (by omega)
      replace hownt := hownt2
      refine Rr (Qn isAgg3 rfl (hbu7.get 0 rfl)) ?_
      refine Qd (Qc ?_)
      refine Rg_alst rfl rfl zeroValue3 rfl sizeOf3 (fun _ => rfl) rfl rfl ?_
      intro b7 w356 x357 hge7 hb7
      have hlt7 := hb7.lt
      have z358 := x357.size
      replace hX := hX.ex x357
      replace hXL212 := Bel.ex hXL212 x357
      replace hE := Bel.ex hE x357
      replace hmk := Mks.ext hmk x357
      replace hb43 := hb43.ext x357
      replace hownt := hownt.ext x357
      refine Qd (Qc ?_)
      refine Rr (Qn isAgg3 rfl (hb7.at.get 0 rfl)) ?_
      refine Rr (o_addN (p := k + 1) (b := 1) rfl rfl (by omega)) ?_
      refine QX (v := .int _ _) rfl sizeOf3 rfl rfl hb7 rfl rfl rfl ?_
      intro w359 c360 hb7
      have z361 := Bel.size c360
      replace hX := Bel.out hX c360 om2
      replace hXL212 := Bel.out hXL212 c360 om2
      replace hE := Bel.out hE c360 om2
      replace hmk := hmk.kp c360 (fun g h1 h2 => by first | (have := hms g h1; first | omega | (have := hmlt g h1; omega)) | (rcases List.mem_cons.1 h1 with e | h1 <;> first | omega | (have := hmlt g h1; omega)))
      replace hb43 := hb43.keep c360 om1
      replace hownt := hownt.keepD c360 om3
      refine Qd ?_
      refine ⟨(b7, k + 1, t2, bt2, et2, m0 :: ms), ⟨sT, trivial⟩, ?_, rfl, ⟨?_, hXL212, ?_⟩, ?_⟩
      ·refine offS_of ?_; repeat (first | exact offS_refl _ _ | exact offS_mixR | refine offS_put rfl ?_ | refine offS_putN ?_ | refine offS_mark ?_ | refine offS_wds ?_ | refine offS_setL rfl ?_ | refine offS_mix rfl ?_)
      ·refine ⟨by show k + 1 ≤ 3; omega, by show n2 ≤ b7; omega, by show n2 ≤ bt2; omega, by show ¬ (bt2 ≤ b7 ∧ b7 < et2); omega, fun m hm => ?_⟩
       show n2 ≤ m ∧ ¬ (bt2 ≤ m ∧ m < et2)
       rcases List.mem_cons.1 hm with rfl | hm
       ·omega
       ·have h1 := hms m hm; have h2 := hmlt m hm; omega
      ·exact ⟨hb7.at, hb43, hownt, by show et2 ≤ _; omega, hmk⟩
      ·show 3 - (k + 1) < 3 - k; omega
    have hk3 : ¬ k < 3 := by have h := dcF hc4; omega
    refine QS (QL (Qe (Qc ?_)))
    refine Rr (Qn isAgg32 rfl (hb6.at.get 0 rfl)) ?_
    refine QX (v := .pointer _) rfl sizeOf32 rfl rfl hb4 rfl rfl rfl ?_
    intro w362 c363 hb4
    have z364 := Bel.size c363
    replace hX := Bel.out hX c363 om2
    replace hE := Bel.out hE c363 om2
    replace hb5 := hb5.keep c363 om1
    replace hb43 := hb43.keep c363 om1
    replace hownt := hownt.keepD c363 om3
    replace hmk := hmk.kp c363 (fun g h1 h2 => by first | (have := hms g h1; first | omega | (have := hmlt g h1; omega)) | (rcases List.mem_cons.1 h1 with e | h1 <;> first | omega | (have := hmlt g h1; omega)))
    refine QX (v := .int _ _) rfl sizeOf33 rfl rfl hb5 rfl rfl rfl ?_
    intro w365 c366 hb5
    have z367 := Bel.size c366
    replace hX := Bel.out hX c366 om2
    replace hE := Bel.out hE c366 om2
    replace hb4 := hb4.keep c366 om1
    replace hb43 := hb43.keep c366 om1
    replace hownt := hownt.keepD c366 om3
    replace hmk := hmk.kp c366 (fun g h1 h2 => by first | (have := hms g h1; first | omega | (have := hmlt g h1; omega)) | (rcases List.mem_cons.1 h1 with e | h1 <;> first | omega | (have := hmlt g h1; omega)))
    refine Qd (Qy ?_)
    obtain ⟨w368, hw368⟩ : ∃ u, u = shut w365 ms := ⟨_, rfl⟩
    have x369 : Bel False (fun g => g ∈ ms) w365 w368 := by rw [hw368]; exact shut_bel _ _
    refine ⟨ms, ?_⟩
    rw [← hw368]
    have hmk0 := hmk
    replace x369 := x369.mono (D' := fun g => n2 ≤ g) (fun g _ h => (hms g h).1)
    replace hownt := hownt.shut hmk0
    rw [← hw368] at hownt
    replace hb43 := hb43.shut hmk0
    rw [← hw368] at hb43
    have z370 := x369.size
    replace hX := Bel.out hX x369 om2
    replace hE := Bel.out hE x369 om2
    replace hb4 := hb4.keep x369 om1
    replace hb5 := hb5.keep x369 om1
    refine ⟨_, hmk0, res_T (vs := [.pointer _, .int _ _]) rfl ⟨rv_cell1 isAgg32 rfl (hb4.at.get 0 rfl), rv_cell1 isAgg33 rfl (hb5.at.get 0 rfl), trivial⟩ (by simp), ?_⟩
    obtain rfl : k = 3 := by omega
    rw [its_all] at hownt
    exact ⟨⟨_, rfl, b43, t, rfl, hb43.lt, hb43, (hownt.mono (fun g h1 h2 => ⟨h1, by omega⟩)).rd Zc⟩, hX⟩

