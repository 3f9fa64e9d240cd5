/- Walks: what functions return. -/
import Derived.Test.YtjnjalalkbamkaaGreatDoorWwire
import Derived.Test.YtjnjalalkbamkaaGreatDoorWc52
set_option linter.unusedVariables false
set_option linter.unusedSimpArgs false
set_option linter.unnecessarySimpa false
namespace Go.Proofs.YtjnjalalkbamkaaGreatDoor
open Go Go.Lx Go.RowKit Tryz
set_option maxRecDepth 100000
theorem rdn_ok (v0 : Value) (D : Nat → Prop) (s : RSt) (most : Nat) (hmost : most ≤ 100000000) (w : World) (hr0 : Rdr 126 D w v0 s) (hl9 : s.1.length ≤ 100000000) : Ok Tryz.prog 23 #[v0, .int .i64 (most : Int)] w fun v w' => v = .int .i64 (rdN s most).2 ∧ Rdr 126 D w' v0 (rdN s most).1 ∧ Bel False (PtB v0) w w' := rnumber_ok v0 D s most hmost w hr0 hl9
set_option maxHeartbeats 4000000 in
theorem cpread_ok (v0 : Value) (G0 : Nat → Prop) (p : List UInt8) (w : World) (hp : Rd encB 1 G0 w v0 p) (hl : p.length ≤ 1000000) : Ok Tryz.prog 6 #[v0] w fun v w' => (∃ q e, v = .tuple #[q, .int .i64 e] ∧ CpR 73 w' q p e) ∧ Ext False w w' := by
 obtain ⟨ap, cp, rfl, hp⟩ := hp
 replace hp := hp.mono (F' := fun g => g < w.heap.size) (fun g h1 h2 => h1)
 obtain ⟨n0, hn0⟩ : ∃ n, n = w.heap.size := ⟨_, rfl⟩
 refine Qz 103 func6 rfl rfl rfl ?_
 have hX := xRf w
 refine Qe (Qc ?_)
 refine Rr Qm ?_
 refine Rr Qm ?_
 refine Qd (Qe (Qc ?_))
 refine Rr (mvS rfl) ?_
 refine Qo rfl (QA call22 rfl) (Ok.mono (rnew_ok _ _ p _ ⟨_, _, rfl, hp⟩ (by omega)) ?_)
 rintro v11 w1 ⟨hr, x2⟩
 have z3 := x2.size
 replace hX := hX.ex x2
 refine Rr (Qv (v := v11) rfl) ?_
 refine Qd (Qe (Qc ?_))
 obtain ⟨n1, hn1⟩ : ∃ n, n = w1.heap.size := ⟨_, rfl⟩
 replace hr := hr.mono (D' := fun g => n0 ≤ g ∧ g < n1) (fun g h1 h2 => ⟨by have := h2.1; omega, by omega⟩)
 refine Rr (Ql (v := v11) rfl) ?_
 refine Qo rfl (QM call23 rfl rfl) (Ok.mono (hr.wk (rdn_ok v11 _ (p, 0) 30000 (by decide) _ hr (by simp only; omega))) ?_)
 rintro _ w4 ⟨rfl, hr, x5⟩
 have z6 := x5.size
 replace hX := Bel.out hX x5 om2
 obtain ⟨s1, hs1⟩ : ∃ z, z = (rdN (p, 0) 30000).1 := ⟨_, rfl⟩
 rw [← hs1] at hr
 obtain ⟨kd, hkd⟩ : ∃ z, z = (rdN (p, 0) 30000).2 := ⟨_, rfl⟩
 have rkd := rdN_rng (p, 0) 30000 (by decide)
 have dkd := rdN_dec (p, 0) 30000
 rw [← hs1] at dkd
 rw [← hkd] at rkd ⊢
 refine Rr (QZ (cells := cgC ⟨kd, 0, 0, 0, false, []⟩ (.slice none 0 0)) (vs := [(0, .int _ _)]) rfl (by kernel_rfl)) ?_
 refine QJ rfl (Q4 (v := .agg _) rfl) ?_
 intro b15 w7 x8 hge15 hb15
 have hlt15 := hb15.lt
 change Box _ _ _ (cgC _ _) at hb15
 have z9 := x8.size
 replace hX := hX.ex x8
 replace hr := hr.ext x8
 refine Rr (Qv (v := .pointer _) rfl) ?_
 refine Qd (Qe (Qc ?_))
 refine Rr (Ql (v := .pointer _) rfl) ?_
 refine Rr (Ql (v := v11) rfl) ?_
 refine Qo rfl (QM call23 rfl rfl) (Ok.mono (hr.wk (rdn_ok v11 _ s1 30000 (by decide) _ hr (by simp only at *; omega))) ?_)
 rintro _ w10 ⟨rfl, hr, x11⟩
 have z12 := x11.size
 replace hX := Bel.out hX x11 om2
 replace hb15 := hb15.keep x11 om1
 obtain ⟨s2, hs2⟩ : ∃ z, z = (rdN s1 30000).1 := ⟨_, rfl⟩
 rw [← hs2] at hr
 obtain ⟨kl, hkl⟩ : ∃ z, z = (rdN s1 30000).2 := ⟨_, rfl⟩
 have rkl := rdN_rng s1 30000 (by decide)
 have dkl := rdN_dec s1 30000
 rw [← hs2] at dkl
 rw [← hkl] at rkl ⊢
 refine Rr (QG rfl) ?_
 refine Rr (Qx underlying73 rfl sizeOf3 rfl) ?_
 refine QY (v := .int _ _) rfl sizeOf3 rfl rfl hb15 rfl rfl rfl ?_
 intro w13 c14 hb15
 change Box _ _ _ ([.int _ _, .int _ _, .int _ _, .int _ _, .bool _, .slice _ _ _]) at hb15
 have z15 := Bel.size c14
 replace hX := Bel.out hX c14 om2
 replace hr := hr.keepD c14 om3
 refine Qd (Qe (Qc ?_))
 refine Rr (Ql (v := .pointer _) rfl) ?_
 refine Rr (Ql (v := v11) rfl) ?_
 refine Qo rfl (QM call23 rfl rfl) (Ok.mono (hr.wk (rdn_ok v11 _ s2 30000 (by decide) _ hr (by simp only at *; omega))) ?_)
 rintro _ w16 ⟨rfl, hr, x17⟩
 have z18 := x17.size
 replace hX := Bel.out hX x17 om2
 replace hb15 := hb15.keep x17 om1
 obtain ⟨s3, hs3⟩ : ∃ z, z = (rdN s2 30000).1 := ⟨_, rfl⟩
 rw [← hs3] at hr
 obtain ⟨ka, hka⟩ : ∃ z, z = (rdN s2 30000).2 := ⟨_, rfl⟩
 have rka := rdN_rng s2 30000 (by decide)
 have dka := rdN_dec s2 30000
 rw [← hs3] at dka
 rw [← hka] at rka ⊢
 refine Rr (QG rfl) ?_
 refine Rr (Qx underlying73 rfl sizeOf3 rfl) ?_
 refine QY (v := .int _ _) rfl sizeOf3 rfl rfl hb15 rfl rfl rfl ?_
 intro w19 c20 hb15
 change Box _ _ _ ([.int _ _, .int _ _, .int _ _, .int _ _, .bool _, .slice _ _ _]) at hb15
 have z21 := Bel.size c20
 replace hX := Bel.out hX c20 om2
 replace hr := hr.keepD c20 om3
 refine Qd (Qe (Qc ?_))
 refine Rr (Ql (v := .pointer _) rfl) ?_
 refine Rr (Ql (v := v11) rfl) ?_
 refine Qo rfl (QM call23 rfl rfl) (Ok.mono (hr.wk (rdn_ok v11 _ s3 256 (by decide) _ hr (by simp only at *; omega))) ?_)
 rintro _ w22 ⟨rfl, hr, x23⟩
 have z24 := x23.size
 replace hX := Bel.out hX x23 om2
 replace hb15 := hb15.keep x23 om1
 obtain ⟨s4, hs4⟩ : ∃ z, z = (rdN s3 256).1 := ⟨_, rfl⟩
 rw [← hs4] at hr
 obtain ⟨kc, hkc⟩ : ∃ z, z = (rdN s3 256).2 := ⟨_, rfl⟩
 have rkc := rdN_rng s3 256 (by decide)
 have dkc := rdN_dec s3 256
 rw [← hs4] at dkc
 rw [← hkc] at rkc ⊢
 refine Rr (QG rfl) ?_
 refine Rr (Qx underlying73 rfl sizeOf3 rfl) ?_
 refine QY (v := .int _ _) rfl sizeOf3 rfl rfl hb15 rfl rfl rfl ?_
 intro w25 c26 hb15
 change Box _ _ _ ([.int _ _, .int _ _, .int _ _, .int _ _, .bool _, .slice _ _ _]) at hb15
 have z27 := Bel.size c26
 replace hX := Bel.out hX c26 om2
 replace hr := hr.keepD c26 om3
 refine Qd (Qe (Qc ?_))
 refine Rr (Ql (v := .pointer _) rfl) ?_
 refine Rr (Ql (v := v11) rfl) ?_
 refine Qo rfl (QA call24 rfl) (Ok.mono (hr.wk (rflag_ok v11 _ s4 _ hr (by simp only at *; omega))) ?_)
 rintro _ w28 ⟨rfl, hr, x29⟩
 have z30 := x29.size
 replace hX := Bel.out hX x29 om2
 replace hb15 := hb15.keep x29 om1
 obtain ⟨s5, hs5⟩ : ∃ z, z = (flagS s4).1 := ⟨_, rfl⟩
 rw [← hs5] at hr
 obtain ⟨kf, hkf⟩ : ∃ z, z = (flagS s4).2 := ⟨_, rfl⟩
 have dkf := flagS_dec s4
 rw [← hs5] at dkf
 rw [← hkf]
 refine Rr (QG rfl) ?_
 refine Rr (Qx underlying73 rfl sizeOf4 rfl) ?_
 refine QY (v := .bool _) rfl sizeOf4 rfl rfl hb15 rfl rfl rfl ?_
 intro w31 c32 hb15
 change Box _ _ _ ([.int _ _, .int _ _, .int _ _, .int _ _, .bool _, .slice _ _ _]) at hb15
 have z33 := Bel.size c32
 replace hX := Bel.out hX c32 om2
 replace hr := hr.keepD c32 om3
 refine Qd (Qe ?_)
 change Box _ _ _ (cgC ⟨kd, kl, ka, kc, kf, []⟩ (.slice none 0 0)) at hb15
 have h5 : rdH p = (s5, ⟨kd, kl, ka, kc, kf, []⟩) := by
  show ((flagS (rdN (rdN (rdN (rdN (p, 0) 30000).1 30000).1 30000).1 256).1).1, (⟨(rdN (p, 0) 30000).2, (rdN (rdN (p, 0) 30000).1 30000).2, (rdN (rdN (rdN (p, 0) 30000).1 30000).1 30000).2, (rdN (rdN (rdN (rdN (p, 0) 30000).1 30000).1 30000).1 256).2, (flagS (rdN (rdN (rdN (rdN (p, 0) 30000).1 30000).1 30000).1 256).1).2, []⟩ : Cpg)) = _
  rw [← hs1, ← hs2, ← hs3, ← hs4, ← hs5, ← hkd, ← hkl, ← hka, ← hkc, ← hkf]
 obtain ⟨hd, hhd⟩ : ∃ z : Cpg, z = ⟨kd, kl, ka, kc, kf, []⟩ := ⟨_, rfl⟩
 rw [← hhd] at hb15 h5
 have hcl := countS_le s5 16128
 have hcd := countS_dec s5 16128
 apply W_draw (β := False) [peq _, peq _, peq _, peq _, peq _, peq _, peq _, peq _, peq _, peq _, peq _, peq _, peq _, peq _, peq _, peq _, peq _] 17 Q9 (by kernel_rfl) rfl ⟨Qf _, Qf _, Qf _, Qf _, Qf _, Qf _, Qf _, Qf _, Qf _, Qf _, Qf _, Qf _, Qf _, Qf _, Qf _, Qf _, Qf _, trivial⟩ ?ob7 ?fin7
 case ob7 =>
  refine Qh (fun w34 x35 => ?_) ?_
  ·have z36 := x35.size
   refine Qg ?_
   exact Qt rfl (Ql (v := .pointer _) rfl)
  refine Qh (fun w37 x38 => ?_) ?_
  ·have z39 := x38.size
   refine Qa (Qg ?_)
   exact Qt rfl (QG rfl)
  refine Qh (fun w40 x41 => ?_) ?_
  ·have z42 := x41.size
   refine Qa (Qg ?_)
   exact Qt rfl (Qx underlying73 rfl sizeOf3 rfl)
  refine Qh (fun w43 x44 => ?_) ?_
  ·have z45 := x44.size
   have hb15 := hb15.ext x44
   refine Qa (Qg ?_)
   exact Qt rfl (Qn isAgg3 rfl (hb15.at.get 1 rfl))
  refine Qh (fun w46 x47 => ?_) ?_
  ·have z48 := x47.size
   refine Qg ?_
   exact Qt rfl (Ql (v := .pointer _) rfl)
  refine Qh (fun w49 x50 => ?_) ?_
  ·have z51 := x50.size
   refine Qa (Qg ?_)
   exact Qt rfl (QG rfl)
  refine Qh (fun w52 x53 => ?_) ?_
  ·have z54 := x53.size
   refine Qa (Qg ?_)
   exact Qt rfl (Qx underlying73 rfl sizeOf3 rfl)
  refine Qh (fun w55 x56 => ?_) ?_
  ·have z57 := x56.size
   have hb15 := hb15.ext x56
   refine Qa (Qg ?_)
   exact Qt rfl (Qn isAgg3 rfl (hb15.at.get 2 rfl))
  refine Qh (fun w58 x59 => ?_) ?_
  ·have z60 := x59.size
   refine Qa (Qa (Qg ?_))
   exact Qt rfl (QQ rfl rfl)
  refine Qh (fun w61 x62 => ?_) ?_
  ·have z63 := x62.size
   refine Qa (Qg ?_)
   exact Qt rfl (mvB rfl)
  refine Qh (fun w64 x65 => ?_) ?_
  ·have z66 := x65.size
   refine Qa (Qg ?_)
   exact QN 9 45 rfl rfl (fun hg => (Ql (v := .pointer _) rfl))
  refine Qh (fun w67 x68 => ?_) ?_
  ·have z69 := x68.size
   refine Qa (Qa (Qg ?_))
   exact QN 9 45 rfl rfl (fun hg => (QG (QE (u := undef) hg)))
  refine Qh (fun w70 x71 => ?_) ?_
  ·have z72 := x71.size
   refine Qa (Qa (Qg ?_))
   exact QN 9 45 rfl rfl (fun hg => (Qx underlying73 rfl sizeOf3 (QE (u := undef) hg)))
  refine Qh (fun w73 x74 => ?_) ?_
  ·have z75 := x74.size
   have hb15 := hb15.ext x74
   refine Qa (Qa (Qg ?_))
   exact QN 9 45 rfl rfl (fun hg => (Qn isAgg3 (QE (u := undef) hg) (hb15.at.get 3 rfl)))
  refine Qh (fun w76 x77 => ?_) ?_
  ·have z78 := x77.size
   refine Qa (Qa (Qg ?_))
   exact QN 9 45 rfl rfl (fun hg => (o_geq (QE (u := undef) hg) rfl))
  refine Qh (fun w79 x80 => ?_) ?_
  ·have z81 := x80.size
   refine Qa (Qa (Qg ?_))
   exact Qt rfl (o_and (u := undef) rfl rfl)
  refine Qh (fun w82 x83 => ?_) ?_
  ·have z84 := x83.size
   refine Qa (Qa (Qa (Qa (Qa (Qa (Qa (Qa (Qa ?_))))))))
   refine Qa (Qa (Qa (Qa (Qa (Qa (Qa (Qa (Qa ?_))))))))
   refine Qg ?_
   exact Qt rfl (asB rfl)
  exact Q7
 case fin7 =>
  intro w85 x86
  have z87 := x86.size
  replace hX := hX.ex x86
  replace hr := hr.ext x86
  replace hb15 := hb15.ext x86
  refine Qa (Qa (Qa (Qa (Qa (Qa (Qa (Qa (Qa ?_))))))))
  refine Qa (Qa (Qa (Qa (Qa (Qa (Qa (Qa (Qg ?_))))))))
  refine Qd (Qe (Qc ?_))
  refine Rr (QZ (cells := encIp itz) (vs := []) rfl (by kernel_rfl)) ?_
  refine Rg_alst rfl rfl zeroValue56 rfl sizeOf56 (fun _ => rfl) rfl rfl ?_
  intro b7 w88 x89 hge7 hb7
  have hlt7 := hb7.lt
  change Box _ _ _ (encIp _) at hb7
  have z90 := x89.size
  replace hX := hX.ex x89
  replace hr := hr.ext x89
  replace hb15 := hb15.ext x89
  refine Qd (Qe (Qe (Qc ?_)))
  obtain ⟨n2, hn2⟩ : ∃ n, n = w88.heap.size := ⟨_, rfl⟩
  refine Rr (Ql (v := v11) rfl) ?_
  refine Qo rfl (QM call25 rfl rfl) (Ok.mono (hr.wk (rcount_ok v11 _ s5 16128 (by decide) _ hr (by simp only at *; omega))) ?_)
  rintro _ w91 ⟨rfl, hr, x92⟩
  have z93 := x92.size
  replace hX := Bel.out hX x92 om2
  replace hb15 := hb15.keep x92 om1
  replace hb7 := hb7.keep x92 om1
  refine Rr (asI rfl) ?_
  refine Qd (QB ?_)
  refine Za (α := Nat × RSt × List Itm × Value) [(6, 6), (8, 9), (55, 94)] (fun q => [(8, .int .i64 (q.1 : Int)), (6, .bool (decide (HdC hd ∧ ChI hd itz q.2.2.1)))]) (fun q w' => (rdIs (countS s5 16128).2 (countS s5 16128).1 [] = rdIs q.1 q.2.1 q.2.2.1 ∧ q.2.1.1.length ≤ 1000000 ∧ q.2.2.1.length + q.1 ≤ 16128) ∧ Bel False (fun g => n0 ≤ g) w91 w' ∧ (Rdr 126 (fun g => n0 ≤ g ∧ g < n1) w' v11 q.2.1 ∧ Box w' b7 56 (encIp (q.2.2.1.getLastD itz)) ∧ Box w' b15 73 (cgC hd q.2.2.2) ∧ Own encIp 4 56 (fun g => n2 ≤ g) w' q.2.2.2 q.2.2.1)) (fun q => q.1) ((countS s5 16128).2, (countS s5 16128).1, [], .slice none 0 0) ⟨rfl, (cvB (by rw [Bool.eq_iff_iff]; simp [HdC, ChI])), trivial⟩ ⟨⟨rfl, by simp only at *; omega, by simp only [List.length_nil]; omega⟩, Bel.refl _ _, ⟨hr, hb7, hb15, Own.nil _ _⟩⟩ ?_
  rintro ⟨m, s, L, t⟩ fb96 w95 ⟨⟨hrd, hsl, hLl⟩, hXL94, ⟨hr, hb7, hb15, hownL⟩⟩
  dsimp only at *
  have z97 := Bel.size hXL94
  replace hX := Bel.out hX hXL94 om2
  refine Qe (Qe (Qc ?_))
  refine Rr (mvI rfl) ?_
  refine Rr (o_gtr rfl rfl) ?_
  refine Rr (mvB rfl) ?_
  refine Qq 2 57 rfl rfl rfl (fun hg => (Ql (v := v11) rfl)) ?_
  refine Rg_mayCall 2 57 rfl rfl rfl (fun hg => ⟨(QA call26 (QE (u := undef) hg)), rerr_ok v11 _ s _ hr⟩) ?_
  intro w98 x99
  have z100 := x99.size
  replace hX := hX.ex x99
  replace hXL94 := Bel.ex hXL94 x99
  replace hr := hr.ext x99
  replace hb7 := hb7.ext x99
  replace hb15 := hb15.ext x99
  replace hownL := hownL.ext x99
  refine Qq 2 57 rfl rfl rfl (fun hg => (Q0 (QE (u := undef) hg) rfl)) ?_
  refine Rr (o_and (u := undef) rfl rfl) ?_
  refine Qd ?_
  refine QD rfl (fun hc1 => ?_) (fun hc1 => ?_)
  ·have hgo := Bool.and_eq_true_iff.1 hc1
   have hs0 : s.2 = 0 := eq_of_beq hgo.2
   have hm0 : 0 < m := by have := dcT hgo.1; omega
   obtain ⟨m, rfl⟩ : ∃ z, m = z + 1 := ⟨m - 1, by omega⟩
   refine Qu (Qe (QB (Qe (Qc ?_))))
   refine Rr (Ql (v := v11) rfl) ?_
   refine Qo rfl (QM call23 rfl rfl) (Ok.mono (hr.wk (rdn_ok v11 _ s 256 (by decide) _ hr (by omega))) ?_)
   rintro _ w101 ⟨rfl, hr, x102⟩
   have z103 := x102.size
   replace hX := Bel.out hX x102 om2
   replace hXL94 := Bel.out hXL94 x102 om2
   replace hb7 := hb7.keep x102 om1
   replace hb15 := hb15.keep x102 om1
   replace hownL := hownL.keepD x102 om3
   obtain ⟨q1, hq1⟩ : ∃ z, z = (rdN s 256).1 := ⟨_, rfl⟩
   rw [← hq1] at hr
   obtain ⟨ku, hku⟩ : ∃ z, z = (rdN s 256).2 := ⟨_, rfl⟩
   have rku := rdN_rng s 256 (by decide)
   have dku := rdN_dec s 256
   rw [← hq1] at dku
   rw [← hku] at rku ⊢
   refine Rr (QZ (cells := encIp ⟨ku, 0, 0, 0⟩) (vs := [(0, .int _ _)]) rfl (by kernel_rfl)) ?_
   refine Rg_alst rfl rfl zeroValue56 rfl sizeOf56 (fun _ => rfl) rfl rfl ?_
   intro b9 w104 x105 hge9 hb9
   replace hownL := hownL.mono (D' := fun g => n2 ≤ g ∧ g ≠ b9) (fun g h1 h2 => by omega)
   have hlt9 := hb9.lt
   change Box _ _ _ (encIp _) at hb9
   have z106 := x105.size
   replace hX := hX.ex x105
   replace hXL94 := Bel.ex hXL94 x105
   replace hr := hr.ext x105
   replace hb7 := hb7.ext x105
   replace hb15 := hb15.ext x105
   replace hownL := hownL.ext x105
   refine Qd (Qe (Qc ?_))
   refine Rr (Ql (v := v11) rfl) ?_
   refine Qo rfl (QM call23 rfl rfl) (Ok.mono (hr.wk (rdn_ok v11 _ q1 63 (by decide) _ hr (by omega))) ?_)
   rintro _ w107 ⟨rfl, hr, x108⟩
   have z109 := x108.size
   replace hX := Bel.out hX x108 om2
   replace hXL94 := Bel.out hXL94 x108 om2
   replace hb7 := hb7.keep x108 om1
   replace hb15 := hb15.keep x108 om1
   replace hownL := hownL.keepD x108 om3
   replace hb9 := hb9.keep x108 om1
   obtain ⟨q2, hq2⟩ : ∃ z, z = (rdN q1 63).1 := ⟨_, rfl⟩
   rw [← hq2] at hr
   obtain ⟨kr, hkr⟩ : ∃ z, z = (rdN q1 63).2 := ⟨_, rfl⟩
   have rkr := rdN_rng q1 63 (by decide)
   have dkr := rdN_dec q1 63
   rw [← hq2] at dkr
   rw [← hkr] at rkr ⊢
   refine Rr (Qx underlying56 rfl sizeOf3 rfl) ?_
   refine QY (v := .int _ _) rfl sizeOf3 rfl rfl hb9 rfl rfl rfl ?_
   intro w110 c111 hb9
   change Box _ _ _ ([.int _ _, .int _ _, .int _ _, .int _ _]) at hb9
   have z112 := Bel.size c111
   replace hX := Bel.out hX c111 om2
   replace hXL94 := Bel.out hXL94 c111 om2
   replace hr := hr.keepD c111 om3
   replace hb7 := hb7.keep c111 om1
   replace hb15 := hb15.keep c111 om1
   replace hownL := hownL.keepD c111 om3
   refine Qd (Qe (Qc ?_))
   refine Rr (Ql (v := v11) rfl) ?_
   refine Qo rfl (QM call23 rfl rfl) (Ok.mono (hr.wk (rdn_ok v11 _ q2 256 (by decide) _ hr (by omega))) ?_)
   rintro _ w113 ⟨rfl, hr, x114⟩
   have z115 := x114.size
   replace hX := Bel.out hX x114 om2
   replace hXL94 := Bel.out hXL94 x114 om2
   replace hb7 := hb7.keep x114 om1
   replace hb15 := hb15.keep x114 om1
   replace hownL := hownL.keepD x114 om3
   replace hb9 := hb9.keep x114 om1
   obtain ⟨q3, hq3⟩ : ∃ z, z = (rdN q2 256).1 := ⟨_, rfl⟩
   rw [← hq3] at hr
   obtain ⟨kv, hkv⟩ : ∃ z, z = (rdN q2 256).2 := ⟨_, rfl⟩
   have rkv := rdN_rng q2 256 (by decide)
   have dkv := rdN_dec q2 256
   rw [← hq3] at dkv
   rw [← hkv] at rkv ⊢
   refine Rr (Qx underlying56 rfl sizeOf3 rfl) ?_
   refine QY (v := .int _ _) rfl sizeOf3 rfl rfl hb9 rfl rfl rfl ?_
   intro w116 c117 hb9
   change Box _ _ _ ([.int _ _, .int _ _, .int _ _, .int _ _]) at hb9
   have z118 := Bel.size c117
   replace hX := Bel.out hX c117 om2
   replace hXL94 := Bel.out hXL94 c117 om2
   replace hr := hr.keepD c117 om3
   replace hb7 := hb7.keep c117 om1
   replace hb15 := hb15.keep c117 om1
   replace hownL := hownL.keepD c117 om3
   refine Qd (Qe (Qc ?_))
   refine Rr (Ql (v := v11) rfl) ?_
   refine Qo rfl (QM call23 rfl rfl) (Ok.mono (hr.wk (rdn_ok v11 _ q3 4 (by decide) _ hr (by omega))) ?_)
   rintro _ w119 ⟨rfl, hr, x120⟩
   have z121 := x120.size
   replace hX := Bel.out hX x120 om2
   replace hXL94 := Bel.out hXL94 x120 om2
   replace hb7 := hb7.keep x120 om1
   replace hb15 := hb15.keep x120 om1
   replace hownL := hownL.keepD x120 om3
   replace hb9 := hb9.keep x120 om1
   obtain ⟨q4, hq4⟩ : ∃ z, z = (rdN q3 4).1 := ⟨_, rfl⟩
   rw [← hq4] at hr
   obtain ⟨ke, hke⟩ : ∃ z, z = (rdN q3 4).2 := ⟨_, rfl⟩
   have rke := rdN_rng q3 4 (by decide)
   have dke := rdN_dec q3 4
   rw [← hq4] at dke
   rw [← hke] at rke ⊢
   refine Rr (o_convS underlying3 underlying54 rfl (wrap_v8 (by omega) (by omega))) ?_
   refine Rr (Qx underlying56 rfl sizeOf54 rfl) ?_
   refine QY (v := .int _ _) rfl sizeOf54 rfl rfl hb9 rfl rfl rfl ?_
   intro w122 c123 hb9
   change Box _ _ _ ([.int _ _, .int _ _, .int _ _, .int _ _]) at hb9
   have z124 := Bel.size c123
   replace hX := Bel.out hX c123 om2
   replace hXL94 := Bel.out hXL94 c123 om2
   replace hr := hr.keepD c123 om3
   replace hb7 := hb7.keep c123 om1
   replace hb15 := hb15.keep c123 om1
   replace hownL := hownL.keepD c123 om3
   refine Qd (Qe (Qc ?_))
   change Box _ _ _ (encIp ⟨ku, kr, kv, ke⟩) at hb9
   have h9 : rdI s = (q4, ⟨ku, kr, kv, ke⟩) := by
    show ((rdN (rdN (rdN (rdN s 256).1 63).1 256).1 4).1, (⟨(rdN s 256).2, (rdN (rdN s 256).1 63).2, (rdN (rdN (rdN s 256).1 63).1 256).2, (rdN (rdN (rdN (rdN s 256).1 63).1 256).1 4).2⟩ : Itm)) = _
    rw [← hq1, ← hq2, ← hq3, ← hq4, ← hku, ← hkr, ← hkv, ← hke]
   have hro : RgI ⟨ku, kr, kv, ke⟩ := ⟨rku, rkr, rkv, rke⟩
   obtain ⟨o, ho⟩ : ∃ z : Itm, z = ⟨ku, kr, kv, ke⟩ := ⟨_, rfl⟩
   rw [← ho] at hb9 h9 hro
   refine Rr (mvB rfl) ?_
   refine Rr (mvB rfl) ?_
   refine Qq 1 78 rfl rfl rfl (fun hg => (Ql (v := .pointer _) rfl)) ?_
   refine Qq 1 78 rfl rfl rfl (fun hg => (QO isAgg56 sizeOf56 rfl hb9.at rfl)) ?_
   refine Qq 1 78 rfl rfl rfl (fun hg => (QO isAgg56 sizeOf56 rfl hb7.at rfl)) ?_
   refine Rg_mayCall 1 78 rfl rfl rfl (fun hg => ⟨(o_call3 call27 (QE (u := undef) hg) (QE (u := undef) hg) (QE (u := undef) hg)), cval_ok b15 hd _ o (L.getLastD itz) _ hb15 hro⟩) ?_
   intro w125 x126
   have z127 := x126.size
   replace hX := hX.ex x126
   replace hXL94 := Bel.ex hXL94 x126
   replace hr := hr.ext x126
   replace hb7 := hb7.ext x126
   replace hb15 := hb15.ext x126
   replace hownL := hownL.ext x126
   replace hb9 := hb9.ext x126
   refine Rr (o_and (u := undef) rfl rfl) ?_
   refine Rr (asB rfl) ?_
   refine Qd (Qe (Qc ?_))
   refine Rr (QO isAgg56 sizeOf56 rfl hb9.at rfl) ?_
   refine QX (v := .agg _) rfl sizeOf56 rfl rfl hb7 rfl rfl rfl ?_
   intro w128 c129 hb7
   change Box _ _ _ (encIp _) at hb7
   have z130 := Bel.size c129
   replace hX := Bel.out hX c129 om2
   replace hXL94 := Bel.out hXL94 c129 om2
   replace hr := hr.keepD c129 om3
   replace hb15 := hb15.keep c129 om1
   replace hownL := hownL.keepD c129 om3
   replace hb9 := hb9.keep c129 om1
   refine Qd ?_
   obtain ⟨n3, hn3⟩ : ∃ n, n = w128.heap.size := ⟨_, rfl⟩
   apply Ze (β := False) (fun b => if n2 ≤ b ∧ b ≠ b9 then 1 else 0) [peqC _, peqC _, peqC _, peqC _, peqC _, peqC _, (fun v w c => ∃ a, v = .slice a 1 1 ∧ postOwn encIp 4 56 0 [o] v w c), (postOwn encIp 4 56 1 (L ++ [o]))] [0, 0, 0, 0, 0, 0, 0, 1] 8 Q9 (by kernel_rfl) (by kernel_rfl) rfl ⟨Qi _ _, Qi _ _, Qi _ _, Qi _ _, Qi _ _, Qi _ _, (postBs_stable), (Q1), trivial⟩ ?ob18 ?fin18
   case ob18 =>
    refine Qk (fun w131 c133 x132 hc0134 hk135 => ?_) ?_
    ·replace x132 := Bel.mono x132 (D' := fun g => n2 ≤ g ∧ g ≠ b9) omC
     have z136 := x132.size
     refine Qj ?_
     exact Qs rfl (Ql (v := .pointer _) rfl)
    refine Qk (fun w137 c139 x138 hc0140 hk141 => ?_) ?_
    ·replace x138 := Bel.mono x138 (D' := fun g => n2 ≤ g ∧ g ≠ b9) omC
     have z142 := x138.size
     refine Qj ?_
     exact Qs rfl (Ql (v := .pointer _) rfl)
    refine Qk (fun w143 c145 x144 hc0146 hk147 => ?_) ?_
    ·replace x144 := Bel.mono x144 (D' := fun g => n2 ≤ g ∧ g ≠ b9) omC
     have z148 := x144.size
     refine Qb (Qj ?_)
     exact Qs rfl (QG rfl)
    refine Qk (fun w149 c151 x150 hc0152 hk153 => ?_) ?_
    ·replace x150 := Bel.mono x150 (D' := fun g => n2 ≤ g ∧ g ≠ b9) omC
     have z154 := x150.size
     refine Qb (Qj ?_)
     exact Qs rfl (Qx underlying73 rfl sizeOf53 rfl)
    refine Qk (fun w155 c157 x156 hc0158 hk159 => ?_) ?_
    ·replace x156 := Bel.mono x156 (D' := fun g => n2 ≤ g ∧ g ≠ b9) omC
     have z160 := x156.size
     have hb15 := hb15.keep x156 om1
     refine Qb (Qj ?_)
     exact Qs rfl (Qn isAgg53 rfl (hb15.at.get 5 rfl))
    refine Qk (fun w161 c163 x162 hc0164 hk165 => ?_) ?_
    ·replace x162 := Bel.mono x162 (D' := fun g => n2 ≤ g ∧ g ≠ b9) omC
     have z166 := x162.size
     have hb9 := hb9.keep x162 om1
     refine Qj ?_
     exact Qs rfl (QO isAgg56 sizeOf56 rfl hb9.at rfl)
    refine Qk (fun w167 c169 x168 hc0170 hk171 => ?_) ?_
    ·replace x168 := Bel.mono x168 (D' := fun g => n2 ≤ g ∧ g ≠ b9) omC
     have z172 := x168.size
     refine Qb (Qj ?_)
     exact OpC_bs (vs := [.agg _]) [o] Zc el_ip rfl rfl ⟨rfl, trivial⟩ rfl rfl rfl rfl
    refine Qk (fun w173 c175 x174 hc0176 hk177 => ?_) ?_
    ·replace x174 := Bel.mono x174 (D' := fun g => n2 ≤ g ∧ g ≠ b9) omC
     have z178 := x174.size
     refine Qb ?_
     refine Qw (fun v91 hv91 => ?_)
     obtain ⟨a91, rfl, ho91⟩ := hv91
     refine Qj ?_
     exact OpC_app (by decide) Zc el_ip rfl rfl (((hownL.mono (D' := fun g => (n2 ≤ g ∧ g ≠ b9) ∧ g < n3) (fun g h1 h2 => ⟨⟨by omega, by omega⟩, by omega⟩)).ext (Bel.exV x174 (fun b hb hd => hk177 1 (by decide) (by kernel_rfl) b hb (if_pos hd)))).mono (fun g hg h => (hc0176 g (by omega)).trans (if_pos h.1))) (Own.slA ho91 Zc) rfl (by rw [List.length_singleton]; omega)
    exact Q8
   case fin18 =>
    intro w179 c181 x180 hc0182
    replace x180 := Bel.mono x180 (D' := fun g => n2 ≤ g ∧ g ≠ b9) omC
    have z183 := x180.size
    replace hX := Bel.out hX x180 om2
    replace hXL94 := Bel.out hXL94 x180 om2
    replace hr := hr.keepD x180 om3
    replace hb7 := hb7.keep x180 om1
    replace hb15 := hb15.keep x180 om1
    refine Qb (Qb (Qb (Qb (Qb (Qb ?_)))))
    refine Qw (fun v91 hv91 => ?_)
    obtain ⟨a91, rfl, ho91⟩ := hv91
    refine Qw (fun v92 hv92 => ?_)
    refine Qj ?_
    change Own _ _ _ _ _ _ _ at hv92
    have hownL := Own.mono hv92 (D' := fun g => n2 ≤ g ∧ g ≠ b9) (fun g h1 h2 => Classical.byContradiction fun hn => by have hlt : g < n3 := Nat.lt_of_not_le (fun hq => hn ⟨by omega, by omega⟩); have h : _ = (if n2 ≤ g ∧ g ≠ b9 then 1 else 0) := hc0182 g (by omega); rw [h2, if_neg hn] at h; cases h)
    obtain ⟨a92, c92, hva92, -⟩ := hownL.sl Zc
    subst hva92
    refine Rr (QG rfl) ?_
    refine Rr (Qx underlying73 rfl sizeOf53 rfl) ?_
    refine QY (v := .slice _ _ _) rfl sizeOf53 rfl rfl hb15 rfl rfl rfl ?_
    intro w184 c185 hb15
    change Box _ _ _ ([.int _ _, .int _ _, .int _ _, .int _ _, .bool _, .slice _ _ _]) at hb15
    have z186 := Bel.size c185
    replace hX := Bel.out hX c185 om2
    replace hXL94 := Bel.out hXL94 c185 om2
    replace hr := hr.keepD c185 om3
    replace hb7 := hb7.keep c185 om1
    replace hownL := hownL.keepD c185 om3
    refine Qd (Qc ?_)
    refine Rr (mvI rfl) ?_
    refine Rr (o_subN (p := m + 1) (b := 1) rfl rfl (by omega) (by omega)) ?_
    refine Rr (asI rfl) ?_
    refine Qd ?_
    refine ⟨(m, q4, L ++ [o], .slice a92 (L ++ [o]).length c92), ⟨sT, ?_, trivial⟩, oT, ⟨?_, hXL94, ?_⟩, ?_⟩
    ·exact cvB (by rw [Bool.eq_iff_iff]; simp [ChI.snoc, and_assoc])
    ·refine ⟨hrd.trans ((rdIs_go hs0).trans (by rw [h9])), by simp only at *; omega, ?_⟩
     simp only [List.length_append, List.length_singleton]; omega
    ·refine ⟨hr, ?_, hb15, hownL.mono (fun g h1 h2 => by omega)⟩
     rw [show (L ++ [o]).getLastD itz = o by simp]; exact hb7
    ·show m < m + 1; omega
  have hst := hc1
  refine QS (QL (Qe (Qe (Qc ?_))))
  have hall : rdIs (countS s5 16128).2 (countS s5 16128).1 [] = (s, L) := hrd.trans (rdIs_stop hst)
  have hcp : rdCp p = (s, { hd with l := L }) := by
   unfold rdCp
   rw [h5]
   simp only
   rw [hall]
  refine Rr (Ql (v := v11) rfl) ?_
  refine Qo rfl (QA call28 rfl) (Ok.mono (rend_ok v11 _ s _ hr) ?_)
  rintro _ w187 ⟨rfl, x188⟩
  have z189 := x188.size
  replace hX := hX.ex x188
  replace hb15 := hb15.ext x188
  replace hownL := hownL.ext x188
  refine Rr (o_neq rfl rfl) ?_
  refine Rr (mvB rfl) ?_
  refine Qq 3 98 rfl rfl rfl (fun hg => (mvB rfl)) ?_
  refine Qq 3 98 rfl rfl rfl (fun hg => (Q5 (QE (u := undef) hg))) ?_
  refine Rr (o_or (u := undef) rfl rfl) ?_
  refine Qd ?_
  refine QD rfl (fun hc2 => ?_) (fun hc2 => ?_)
  ·have hbad : ¬ okCp p := fun h => by
    rw [okCp, hcp] at h
    have h2 : HdC hd ∧ ChI hd itz L := ⟨h.2.1, (ChI.hd _ _).1 h.2.2⟩
    have h1 : endS s = 0 := h.1
    have q := hc2
    rw [h1, decide_eq_true h2] at q
    cases q
   refine Qe (Qc ?_)
   refine Rr Qm ?_
   refine Rr Qm ?_
   refine Qd (Qy ?_)
   refine ⟨_, res_tmp2 rfl rfl rfl, ?_⟩
   exact ⟨⟨_, _, rfl, .inr ⟨hbad, rfl, rfl⟩⟩, hX⟩
  have hgood : okCp p := by
   have q := Bool.or_eq_false_iff.1 hc2
   have h1 : endS s = 0 := by simpa using q.1
   have h2 : HdC hd ∧ ChI hd itz L := by simpa using q.2
   rw [okCp, hcp]
   exact ⟨h1, h2.1, (ChI.hd _ _).2 h2.2⟩
  refine Qu (Qe (Qc ?_))
  refine Rr (Ql (v := .pointer _) rfl) ?_
  refine Rr (Qv (v := .pointer _) rfl) ?_
  refine Rr Qm ?_
  refine Qd (Qy ?_)
  refine ⟨_, res_tmp2 rfl rfl rfl, ?_⟩
  exact ⟨⟨_, _, rfl, .inl ⟨hgood, rfl, by rw [hcp]; exact ⟨b15, t, rfl, hb15.lt, hb15, (hownL.mono (fun g h1 h2 => ⟨h1, by omega⟩)).rd Zc⟩⟩⟩, hX⟩

