/- Walks: what functions return. -/
import Derived.Test.YtgmpgfokblehdaaGreatDoorWname
import Derived.Test.YtgmpgfokblehdaaGreatDoorWmb5
set_option linter.unusedVariables false
set_option linter.unusedSimpArgs false
set_option linter.unnecessarySimpa false
namespace Go.Proofs.YtgmpgfokblehdaaGreatDoor
open Go Go.Lx Go.RowKit Tryz
set_option maxRecDepth 100000
theorem strcl_ok (w : World) (vl : Value) (l : List Str) (hl : Rd encS 1 (Lt w.heap.size) w vl l) (nl : l.length ≤ 100000) : Ok Tryz.prog 41 #[vl] w fun v w' => Own encS 1 9 (Fsh w w') w' v (l) ∧ Ext False w w' := by
 obtain ⟨al, cl, rfl, hl⟩ := hl; have ml := hl.len
 refine Qv 8 func41 rfl rfl rfl ?_
 have hX := xRf w
 refine Qf (Qb (Rr Qj (Qc (Qf (Qf (Qb (Rr (mvS rfl) (Rr (o_lnil underlying23 rfl) (Qc (Qw rfl (fun hc1 => ?_) (fun hc1 => ?_)))))))))))
 ·have hnl := Vb hl hc1; subst hnl
  exact Qf (Qb (Rr Qj (Qc (Qu ⟨_, Qr rfl rfl, ⟨Own.nil _ _, hX⟩⟩))))
 refine Qp (Qf (Qb (ZP (vs := []) (([] : List Str)) rfl Q5 ZC rfl rfl trivial rfl rfl rfl rfl ?_)))
 intro a5 w1 x2 hown5
 have z3 := x2.size
 replace hX := hX.ex x2
 replace hl := hl.ext x2
 replace hown5 := hown5.mono (D' := fun g => w.heap.size ≤ g) (fun g h1 h2 => by omega)
 refine Rr (mvS rfl) ?_
 refine ZZ rfl Q5 ZC rfl rfl hown5 hl rfl (by simp; omega) omU ?_
 intro v7 w4 x5 hown5
 replace hX := Bel.out hX x5 om2
 refine Rr (QL (v := v7) rfl) (Qc (Qu ⟨_, Qr rfl rfl, ?_⟩))
 rw [List.nil_append] at hown5; exact ⟨hown5.mono (fun g h1 h2 => by omega), hX⟩
theorem nmclone_ok (m : Nat) (M : List (Str × Int)) (w : World) (hm : Nm w m M) : Ok Tryz.prog 42 #[.map (some m)] w fun v w' => ∃ m', v = .map (some m') ∧ w.heap.size ≤ m' ∧ m' < w'.heap.size ∧ Nm w' m' M ∧ Ext False w w' := by
 refine Qv 9 func42 rfl rfl rfl ?_
 have hX := xRf w
 refine Qf (Qb (Rr Qj (Qc (Qf (Qf (Qb (Rr (QG (v := .map _) rfl) (Rr (o_meqnil underlying99 rfl rfl) (Qc (Qq rfl (Qp (Qf (Qb (Rr (QG (v := .map _) rfl) (Rr (o_mkif underlying99 rfl rfl) (Rg_nclone rfl x_cloneI rfl hm ?_))))))))))))))))
 intro m7 w1 x2 hge7 hlt7 hm7
 replace hX := hX.ex x2
 refine Rr (o_tassert underlying99 rfl rfl) (Rr (QL (v := .map _) rfl) (Qc (Qu ⟨_, Qr rfl rfl, ?_⟩)))
 exact ⟨_, rfl, by omega, by omega, hm7, hX⟩
theorem nmclone0_ok (w : World) : Ok Tryz.prog 42 #[.map none] w fun v w' => v = .map none ∧ Ext False w w' := by
 refine Qv 9 func42 rfl rfl rfl ?_
 have hX := xRf w
 exact Qf (Qb (Rr Qj (Qc (Qf (Qf (Qb (Rr (QG (v := .map _) rfl) (Rr (o_meqnil0 underlying99 rfl rfl) (Qc (Za rfl (Qf (Qb (Rr Qj (Qc (Qu ⟨_, Qr rfl rfl, ⟨rfl, hX⟩⟩)))))))))))))))
theorem ntnew_ok (w : World) : Ok Tryz.prog 35 #[] w fun v w' => NtM w' v [] ∧ Ext False w w' := by
 refine Qv 3 func35 rfl rfl rfl ?_
 have hX := xRf w
 refine Qf (Qb (Rr Qj (Qc (Qf (Qb (Rr (Q2 (cells := [.slice none 0 0, .map none]) (vs := []) rfl (by kernel_rfl)) (QH rfl (QX (v := .agg _) rfl) ?_)))))))
 intro b2 w1 x2 hge2 hb2
 replace hX := hX.ex x2
 refine Rr (asP rfl) (Qc (Qu ⟨_, Qr rfl rfl, ?_⟩))
 change Box _ _ _ [.slice none 0 0, .map none] at hb2
 exact ⟨⟨b2, none, 0, .map none, rfl, hb2.at, Sl.none, .inl ⟨rfl, rfl⟩⟩, hX⟩
set_option maxHeartbeats 2000000 in
theorem nadd0_ok (b : Nat) (a : Option Addr) (cp : Nat) (G : Nat → Prop) (s : Str) (hs : s.length ≤ 1100000) (most : Int) (w : World) (hb : At w b 0 [.slice a 0 cp, .map none]) (hl : Sl encS 1 G w a cp ([] : List Str)) (hv : nmS s = true) (hm : 1 ≤ most) : Ok Tryz.prog 8 #[.pointer (some ⟨b, 0, none⟩), str s, .int .i64 most] w fun v w' => (∃ p n, v = .tuple #[p, .int .i64 n, .int .i64 0] ∧ NtM w' p (([] : List Str) ++ [s])) ∧ Ext False w w' := by
 have hbl := hb.lt
 replace hl := hl.mono (F' := fun g => g < w.heap.size) (fun g h1 h2 => h1)
 refine Qv 81 func8 rfl rfl rfl ?_
 have hX := xRf w
 refine Qf (Qb (Rr Qj (Rr Qj (Rr Qj (Qc (Qf (Qt (Qf (Qb (Rr (mvP rfl) (Rr (Zi underlying29 rfl rfl) (Rr (asB rfl) (Qc (Qq rfl (Qf (Qb (Rr (mvT rfl) (Qo rfl (QD call40 rfl) (Ok.mono (name_ok (False) s (by omega) _) ?_)))))))))))))))))))
 rintro _ w1 ⟨rfl, x2⟩
 have z3 := x2.size
 replace hX := hX.ex x2
 replace hb := hb.ext x2
 replace hl := hl.ext x2
 refine Rr (Zp rfl) (Rr (asB rfl) (Qc ?_))
 refine Qq (cvB (by rw [hv]; rfl)) ?_
 refine Qf (Qb (Rr (mvP rfl) (Rr (QJ rfl) (Rr (Qy underlying101 rfl sizeOf99 rfl) (Rr (Qm isAgg99 rfl (hb.get 1 rfl)) (Rr (mvT rfl) (Rr (o_nlook0 underlying99 underlying9 zeroValue3 rfl rfl) (Rr (ZM rfl rfl) (Rr (asB rfl) (Qc (Qq rfl (Qf (Qb (Rr (mvP rfl) (Rr (QJ rfl) (Rr (Qy underlying101 rfl sizeOf23 rfl) (Rr (Qm isAgg23 rfl (hb.get 0 rfl)) (Rr (QC underlying23 rfl) (Rr (mvI rfl) (Rr (ZU rfl rfl) (Rr (mvB rfl) (Qs 7 33 rfl rfl rfl (fun hg => mvP rfl) (Qs 7 33 rfl rfl rfl (fun hg => QJ (QK (u := undef) hg)) (Qs 7 33 rfl rfl rfl (fun hg => Qy underlying101 rfl sizeOf23 (QK (u := undef) hg)) (Qs 7 33 rfl rfl rfl (fun hg => Qm isAgg23 (QK (u := undef) hg) (hb.get 0 rfl)) (Qs 7 33 rfl rfl rfl (fun hg => QC underlying23 (QK (u := undef) hg)) (Qs 7 33 rfl rfl rfl (fun hg => ZU (QK (u := undef) hg) rfl) (Rr (ZS (u := undef) rfl rfl) (Rr (asB rfl) (Qc ?_))))))))))))))))))))))))))))))
 refine Qq (cvB (by simp; omega)) ?_
 refine Qp (Qf ?_)
 obtain ⟨n1, hn1⟩ : ∃ n, n = w1.heap.size := ⟨_, rfl⟩
 apply Zl (β := False) (fun _ => 0) [peqC _, peqC _, peqC _, peqC _, (postOwn encS 1 9 1 ([] : List Str)), peqC _, (fun v w cc => ∃ a, v = .slice a 1 1 ∧ postOwn encS 1 9 0 [s] v w cc), (postOwn encS 1 9 1 (([] : List Str) ++ [s])), peqC _, peqC _, peqC _, peqC _, (postW Nm0), (postAg Nm0 encS 1 9 1 (([] : List Str) ++ [s])), (postBx w1 101 Nm0 encS 1 9 1 (([] : List Str) ++ [s]))] [0, 0, 0, 0, 1, 0, 0, 1, 0, 0, 0, 0, 0, 1, 1] 15 QV (by kernel_rfl) (by kernel_rfl) rfl ⟨Qk _ _, Qk _ _, Qk _ _, Qk _ _, (Zc), Qk _ _, (ZJ), (Zc), Qk _ _, Qk _ _, Qk _ _, Qk _ _, (ZA Nm0.keepS), (YM Nm0.keepS), (YN Nm0.keepS), trivial⟩ ?ob9 ?fin9
 case ob9 =>
  refine Ql (fun w4 c6 x5 hc07 hk8 => Qi (Qx rfl (mvP rfl))) (Ql (fun w10 c12 x11 hc013 hk14 => Qh (Qi (Qx rfl (QJ rfl)))) (Ql (fun w16 c18 x17 hc019 hk20 => Qh (Qi (Qx rfl (Qy underlying101 rfl sizeOf23 rfl)))) (Ql (fun w22 c24 x23 hc025 hk26 => ?_) ?_)))
  ·replace x23 := RelG.ext0 x23
   have hb := hb.ext x23
   exact Qh (Qi (Qx rfl (Qm isAgg23 rfl (hb.get 0 rfl))))
  refine Ql (fun w28 c30 x29 hc031 hk32 => ?_) ?_
  ·replace x29 := RelG.ext0 x29
   have hl := hl.ext x29
   refine Qh (Qi ?_)
   exact Vm rfl (QD call41 rfl) (strcl_ok _ _ ([] : List Str) hl.trd (by simp; done))
  refine Ql (fun w34 c36 x35 hc037 hk38 => Qi (Qx rfl (mvT rfl))) (Ql (fun w40 c42 x41 hc043 hk44 => Qh (Qi (Jw (vs := [str _]) [s] Q5 ZC rfl rfl ⟨rfl, trivial⟩ rfl rfl rfl rfl))) (Ql (fun w46 c48 x47 hc049 hk50 => ?_) ?_))
  ·refine Qz (fun v45 hv45 => Qz (fun v47 hv47 => ?_))
   obtain ⟨a47, rfl, ho47⟩ := hv47
   refine Qz (fun v45 hv45 => Qi ?_)
   exact Jg (by decide) Q5 ZC rfl rfl hv45 (Own.slA ho47 Q5) rfl (by simp; done)
  refine Ql (fun w52 c54 x53 hc055 hk56 => Qi (Qx rfl (mvP rfl))) (Ql (fun w58 c60 x59 hc061 hk62 => Qh (Qi (Qx rfl (QJ rfl)))) (Ql (fun w64 c66 x65 hc067 hk68 => Qh (Qi (Qx rfl (Qy underlying101 rfl sizeOf99 rfl)))) (Ql (fun w70 c72 x71 hc073 hk74 => ?_) ?_)))
  ·replace x71 := RelG.ext0 x71
   have hb := hb.ext x71
   exact Qh (Qi (Qx rfl (Qm isAgg99 rfl (hb.get 1 rfl))))
  refine Ql (fun w76 c78 x77 hc079 hk80 => Qh (Qz (fun v48 hv48 => Qi (Yt (S := Nm0) rfl (QD call42 rfl) (nmclone0_ok _))))) (Ql (fun w82 c84 x83 hc085 hk86 => ?_) ?_)
  ·refine Qz (fun v48 hv48 => Qz (fun v53 hv53 => Qi ?_))
   obtain ⟨a48, c48, rfl, -⟩ := Own.sl hv48 Q5
   obtain ⟨F53, hF53, hS53⟩ := hv53
   have hz53 : v53 = .map none := hS53
   subst hz53
   exact OpC_vp rfl (Q2 (cells := [.slice a48 (([] : List Str) ++ [s]).length c48, .map none]) (vs := [(0, .slice _ _ _), (1, .map _)]) rfl (by kernel_rfl)) ⟨a48, _, c48, _, rfl, hv48, F53, hF53, hS53⟩
  refine Ql (fun w88 c90 x89 hc091 hk92 => ?_) ?_
  ·replace x89 := RelG.ext0 x89
   exact Qz (fun v54 hv54 => Qi (OpC_bx Nm0.keepS (Bel.size x89) rfl (QX (v := v54) rfl) hv54))
  exact Q8
 case fin9 =>
  intro w94 c96 x95 hc097
  replace x95 := RelG.ext0 x95
  have z98 := x95.size
  replace hX := hX.ex x95
  refine Qh (Qh (Qh (Qh (Qz (fun v45 _ => Qh (Qz (fun v47 hv47 => ?_)))))))
  obtain ⟨a47, rfl, ho47⟩ := hv47
  refine Qz (fun v48 _ => Qh (Qh (Qh (Qh (Qz (fun v53 hv53 => Qz (fun v54 _ => Qz (fun v55 hv55 => Qi ?_))))))))
  obtain ⟨b55, a55, m55, c55, mm55, rfl, hge55, hb55, hcb55, ho55, F55, hF55, hS55⟩ := hv55
  have hz55 : mm55 = .map none := hS55
  subst hz55
  have hm55 : m55 = (([] : List Str) ++ [s]).length := by
   obtain ⟨a', c', he, -⟩ := Own.sl ho55 Q5
   simp only [Value.slice.injEq] at he
   exact he.2.1
  subst hm55
  obtain ⟨n2, hn2⟩ : ∃ n, n = w94.heap.size := ⟨_, rfl⟩
  have hown55 := Own.mono ho55 (D' := fun g => n1 ≤ g ∧ g < n2 ∧ g ≠ b55) (fun g h1 h2 => ⟨Nat.le_of_not_lt fun q => by have h := hc097 g (by omega); rw [h2] at h; simp at h, by omega, fun e => (by rw [e, hcb55] at h2; cases h2)⟩)
  have hlt55 := hb55.lt
  refine Rr (asP rfl) (Qc (Qf (Qf (Qb (Rr (mvP rfl) (Rr (QJ rfl) (Rr (Qy underlying101 rfl sizeOf99 rfl) (Rr (Qm isAgg99 rfl (hb55.at.get 1 rfl)) (Rr (o_meqnil0 underlying99 rfl rfl) (Qc (Za rfl (Qb (Rr (mvP rfl) (Rg_nmk rfl ?_))))))))))))))
  intro m62 w99 x100 hge62 hlt62 hm62
  have z101 := x100.size
  replace hX := hX.ex x100
  replace hb55 := hb55.ext x100
  replace hown55 := hown55.ext x100
  refine Rr (QJ rfl) (Rr (Qy underlying101 rfl sizeOf99 rfl) (Q6 (v := .map _) rfl sizeOf99 rfl rfl hb55 rfl rfl rfl ?_))
  intro w102 c103 hb55
  have z104 := Bel.size c103
  replace hX := Bel.out hX c103 om2
  replace hown55 := hown55.keepD c103 om3
  replace hm62 := hm62.keep c103 om1
  refine Qc (Qf ?_)
  apply Zl (β := False) (fun _ => 0) [peqC _, peqC _, peqC _, peqC _, peqC _, peqC _, peqC _, peqC _, peqC _, peqC _] [0, 0, 0, 0, 0, 0, 0, 0, 0, 0] 10 QV (by kernel_rfl) (by kernel_rfl) rfl ⟨Qk _ _, Qk _ _, Qk _ _, Qk _ _, Qk _ _, Qk _ _, Qk _ _, Qk _ _, Qk _ _, Qk _ _, trivial⟩ ?ob12 ?fin12
  case ob12 =>
   refine Ql (fun w105 c107 x106 hc0108 hk109 => Qi (Qx rfl (mvP rfl))) (Ql (fun w111 c113 x112 hc0114 hk115 => Qh (Qi (Qx rfl (QJ rfl)))) (Ql (fun w117 c119 x118 hc0120 hk121 => Qh (Qi (Qx rfl (Qy underlying101 rfl sizeOf99 rfl)))) (Ql (fun w123 c125 x124 hc0126 hk127 => ?_) ?_)))
   ·replace x124 := RelG.ext0 x124
    have hb55 := hb55.ext x124
    exact Qh (Qi (Qx rfl (Qm isAgg99 rfl (hb55.at.get 1 rfl))))
   refine Ql (fun w129 c131 x130 hc0132 hk133 => Qi (Qx rfl (mvT rfl))) (Ql (fun w135 c137 x136 hc0138 hk139 => Qi (Qx rfl (mvP rfl))) (Ql (fun w141 c143 x142 hc0144 hk145 => Qh (Qi (Qx rfl (QJ rfl)))) (Ql (fun w147 c149 x148 hc0150 hk151 => Qh (Qi (Qx rfl (Qy underlying101 rfl sizeOf23 rfl)))) (Ql (fun w153 c155 x154 hc0156 hk157 => ?_) ?_))))
   ·replace x154 := RelG.ext0 x154
    have hb55 := hb55.ext x154
    exact Qh (Qi (Qx rfl (Qm isAgg23 rfl (hb55.at.get 0 rfl))))
   exact Ql (fun w159 c161 x160 hc0162 hk163 => Qh (Qi (Qx rfl (QC underlying23 rfl)))) Q8
  case fin12 =>
   intro w165 c167 x166 hc0168
   replace x166 := RelG.ext0 x166
   have z169 := x166.size
   replace hX := hX.ex x166
   replace hb55 := hb55.ext x166
   replace hown55 := hown55.ext x166
   replace hm62 := hm62.ext x166
   refine Qh (Qh (Qh (Qh (Qh (Qh (Qh (Qh (Qh (Qh (Qi (Rg_nput rfl underlying99 underlying9 rfl rfl rfl hm62 ?_)))))))))))
   intro w170 x171 hm62
   have z172 := x171.size
   replace hX := Bel.out hX x171 om2
   replace hb55 := hb55.keep x171 om1
   replace hown55 := hown55.keepD x171 om3
   refine Qc (Qf ?_)
   apply Q3 (β := False) [peq _, peq _, peq _, peq _, peq _, peq _, peq _, peq _, peq _] 9 QV (by kernel_rfl) rfl ⟨Qd _, Qd _, Qd _, Qd _, Qd _, Qd _, Qd _, Qd _, Qd _, trivial⟩ ?ob13 ?fin13
   case ob13 =>
    refine Qg (fun _ _ => Qe (Qn rfl (mvP rfl))) (Qg (fun _ _ => Qe (Qn rfl (mvP rfl))) (Qg (fun _ _ => Qa (Qe (Qn rfl (QJ rfl)))) (Qg (fun _ _ => Qa (Qe (Qn rfl (Qy underlying101 rfl sizeOf23 rfl)))) (Qg (fun w185 x186 => ?_) ?_))))
    ·have hb55 := hb55.ext x186
     exact Qa (Qe (Qn rfl (Qm isAgg23 rfl (hb55.at.get 0 rfl))))
    exact Qg (fun _ _ => Qa (Qe (Qn rfl (QC underlying23 rfl)))) (Qg (fun _ _ => Qa (Qa (Qe (Qn rfl (asP rfl))))) (Qg (fun _ _ => Qa (Qa (Qa (Qa (Qa (Qa (Qa (Qa (Qa (Qe (Qn rfl (asI rfl)))))))))))) (Qg (fun _ _ => Qa (Qa (Qa (Qa (Qa (Qa (Qa (Qa (Qa (Qe (Qn rfl Qj))))))))))) QR)))
   case fin13 =>
    intro w200 x201
    replace hX := hX.ex x201
    replace hb55 := hb55.ext x201
    replace hown55 := hown55.ext x201
    replace hm62 := hm62.ext x201
    exact Qa (Qa (Qa (Qa (Qa (Qa (Qa (Qa (Qa (Qe (Qc (Qu ⟨_, res_T (vs := [.pointer _, .int _ _, .int _ _]) rfl ⟨rfl, rfl, rfl, trivial⟩ (by simp), ⟨⟨_, _, rfl, b55, a55, c55, .map (some m62), rfl, hb55.at, (hown55.slA Q5).mono (fun g hg _ => hg), .inr ⟨m62, _, rfl, hm62.lt, hm62, putM_keys (l := []) (by simp)⟩⟩, hX⟩⟩)))))))))))
set_option maxHeartbeats 2000000 in
theorem nadd1_ok (b : Nat) (a : Option Addr) (cp : Nat) (G : Nat → Prop) (l : List Str) (gm : Nat) (M : List (Str × Int)) (s : Str) (hs : s.length ≤ 1100000) (most : Int) (w : World) (hb : At w b 0 [.slice a l.length cp, .map (some gm)]) (hl : Sl encS 1 G w a cp l) (hM : Nm w gm M) (hk : ∀ p ∈ M, p.1 ∈ l) (hv : nmS s = true) (hn : s ∉ l) (hm : (l.length : Int) < most) (hm2 : l.length < 256) : Ok Tryz.prog 8 #[.pointer (some ⟨b, 0, none⟩), str s, .int .i64 most] w fun v w' => (∃ p n, v = .tuple #[p, .int .i64 n, .int .i64 0] ∧ NtM w' p (l ++ [s])) ∧ Ext False w w' := by
 have hbl := hb.lt
 replace hl := hl.mono (F' := fun g => g < w.heap.size) (fun g h1 h2 => h1)
 have hlen := hl.len
 have hgl := hM.lt
 refine Qv 81 func8 rfl rfl rfl ?_
 have hX := xRf w
 refine Qf (Qb (Rr Qj (Rr Qj (Rr Qj (Qc (Qf (Qt (Qf (Qb (Rr (mvP rfl) (Rr (Zi underlying29 rfl rfl) (Rr (asB rfl) (Qc (Qq rfl (Qf (Qb (Rr (mvT rfl) (Qo rfl (QD call40 rfl) (Ok.mono (name_ok (False) s (by omega) _) ?_)))))))))))))))))))
 rintro _ w1 ⟨rfl, x2⟩
 have z3 := x2.size
 replace hX := hX.ex x2
 replace hb := hb.ext x2
 replace hl := hl.ext x2
 replace hM := hM.ext x2
 refine Rr (Zp rfl) (Rr (asB rfl) (Qc ?_))
 refine Qq (cvB (by rw [hv]; rfl)) ?_
 refine Qf (Qb (Rr (mvP rfl) (Rr (QJ rfl) (Rr (Qy underlying101 rfl sizeOf99 rfl) (Rr (Qm isAgg99 rfl (hb.get 1 rfl)) (Rr (mvT rfl) (Rr (o_nlook underlying99 underlying9 zeroValue3 hM rfl rfl (fun p hp e => hn (e ▸ hk p hp))) (Rr (ZM rfl rfl) (Rr (asB rfl) (Qc (Qq rfl (Qf (Qb (Rr (mvP rfl) (Rr (QJ rfl) (Rr (Qy underlying101 rfl sizeOf23 rfl) (Rr (Qm isAgg23 rfl (hb.get 0 rfl)) (Rr (QC underlying23 rfl) (Rr (mvI rfl) (Rr (ZU rfl rfl) (Rr (mvB rfl) (Qs 7 33 rfl rfl rfl (fun hg => mvP rfl) (Qs 7 33 rfl rfl rfl (fun hg => QJ (QK (u := undef) hg)) (Qs 7 33 rfl rfl rfl (fun hg => Qy underlying101 rfl sizeOf23 (QK (u := undef) hg)) (Qs 7 33 rfl rfl rfl (fun hg => Qm isAgg23 (QK (u := undef) hg) (hb.get 0 rfl)) (Qs 7 33 rfl rfl rfl (fun hg => QC underlying23 (QK (u := undef) hg)) (Qs 7 33 rfl rfl rfl (fun hg => ZU (QK (u := undef) hg) rfl) (Rr (ZS (u := undef) rfl rfl) (Rr (asB rfl) (Qc ?_))))))))))))))))))))))))))))))
 refine Qq (cvB (by simp; omega)) ?_
 refine Qp (Qf ?_)
 obtain ⟨n1, hn1⟩ : ∃ n, n = w1.heap.size := ⟨_, rfl⟩
 apply Zl (β := False) (fun _ => 0) [peqC _, peqC _, peqC _, peqC _, (postOwn encS 1 9 1 l), peqC _, (fun v w cc => ∃ a, v = .slice a 1 1 ∧ postOwn encS 1 9 0 [s] v w cc), (postOwn encS 1 9 1 (l ++ [s])), peqC _, peqC _, peqC _, peqC _, (postW (NmG n1 l)), (postAg (NmG n1 l) encS 1 9 1 (l ++ [s])), (postBx w1 101 (NmG n1 l) encS 1 9 1 (l ++ [s]))] [0, 0, 0, 0, 1, 0, 0, 1, 0, 0, 0, 0, 0, 1, 1] 15 QV (by kernel_rfl) (by kernel_rfl) rfl ⟨Qk _ _, Qk _ _, Qk _ _, Qk _ _, (Zc), Qk _ _, (ZJ), (Zc), Qk _ _, Qk _ _, Qk _ _, Qk _ _, (ZA (NmG.keepS n1 l)), (YM (NmG.keepS n1 l)), (YN (NmG.keepS n1 l)), trivial⟩ ?ob9 ?fin9
 case ob9 =>
  refine Ql (fun w4 c6 x5 hc07 hk8 => Qi (Qx rfl (mvP rfl))) (Ql (fun w10 c12 x11 hc013 hk14 => Qh (Qi (Qx rfl (QJ rfl)))) (Ql (fun w16 c18 x17 hc019 hk20 => Qh (Qi (Qx rfl (Qy underlying101 rfl sizeOf23 rfl)))) (Ql (fun w22 c24 x23 hc025 hk26 => ?_) ?_)))
  ·replace x23 := RelG.ext0 x23
   have hb := hb.ext x23
   exact Qh (Qi (Qx rfl (Qm isAgg23 rfl (hb.get 0 rfl))))
  refine Ql (fun w28 c30 x29 hc031 hk32 => ?_) ?_
  ·replace x29 := RelG.ext0 x29
   have hl := hl.ext x29
   exact Qh (Qi (Vm rfl (QD call41 rfl) (strcl_ok _ _ l hl.trd (by omega))))
  refine Ql (fun w34 c36 x35 hc037 hk38 => Qi (Qx rfl (mvT rfl))) (Ql (fun w40 c42 x41 hc043 hk44 => Qh (Qi (Jw (vs := [str _]) [s] Q5 ZC rfl rfl ⟨rfl, trivial⟩ rfl rfl rfl rfl))) (Ql (fun w46 c48 x47 hc049 hk50 => ?_) ?_))
  ·refine Qz (fun v45 hv45 => Qz (fun v47 hv47 => ?_))
   obtain ⟨a47, rfl, ho47⟩ := hv47
   refine Qz (fun v45 hv45 => Qi ?_)
   exact Jg (by decide) Q5 ZC rfl rfl hv45 (Own.slA ho47 Q5) rfl (by simp; omega)
  refine Ql (fun w52 c54 x53 hc055 hk56 => Qi (Qx rfl (mvP rfl))) (Ql (fun w58 c60 x59 hc061 hk62 => Qh (Qi (Qx rfl (QJ rfl)))) (Ql (fun w64 c66 x65 hc067 hk68 => Qh (Qi (Qx rfl (Qy underlying101 rfl sizeOf99 rfl)))) (Ql (fun w70 c72 x71 hc073 hk74 => ?_) ?_)))
  ·replace x71 := RelG.ext0 x71
   have hb := hb.ext x71
   exact Qh (Qi (Qx rfl (Qm isAgg99 rfl (hb.get 1 rfl))))
  refine Ql (fun w76 c78 x77 hc079 hk80 => ?_) ?_
  ·replace x77 := RelG.ext0 x77
   have z81 := x77.size
   have hM := hM.ext x77
   exact Qh (Qz (fun v48 hv48 => Qi (Yt (S := (NmG n1 l)) rfl (QD call42 rfl) ((nmclone_ok gm M _ hM).mono (fun v w2 ⟨m', h1, h2, h3, h4, x⟩ => ⟨⟨m', M, h1, ⟨h2, h3⟩, by omega, h4, hk⟩, x⟩)))))
  refine Ql (fun w82 c84 x83 hc085 hk86 => ?_) ?_
  ·refine Qz (fun v48 hv48 => Qz (fun v53 hv53 => Qi ?_))
   obtain ⟨a48, c48, rfl, -⟩ := Own.sl hv48 Q5
   obtain ⟨F53, hF53, g53, M53, rfl, hS53⟩ := hv53
   exact OpC_vp rfl (Q2 (cells := [.slice a48 (l ++ [s]).length c48, .map (some g53)]) (vs := [(0, .slice _ _ _), (1, .map _)]) rfl (by kernel_rfl)) ⟨a48, _, c48, _, rfl, hv48, F53, hF53, g53, M53, rfl, hS53⟩
  refine Ql (fun w88 c90 x89 hc091 hk92 => ?_) ?_
  ·replace x89 := RelG.ext0 x89
   exact Qz (fun v54 hv54 => Qi (OpC_bx (NmG.keepS n1 l) (Bel.size x89) rfl (QX (v := v54) rfl) hv54))
  exact Q8
 case fin9 =>
  intro w94 c96 x95 hc097
  replace x95 := RelG.ext0 x95
  have z98 := x95.size
  replace hX := hX.ex x95
  refine Qh (Qh (Qh (Qh (Qz (fun v45 _ => Qh (Qz (fun v47 hv47 => ?_)))))))
  obtain ⟨a47, rfl, ho47⟩ := hv47
  refine Qz (fun v48 _ => Qh (Qh (Qh (Qh (Qz (fun v53 hv53 => Qz (fun v54 _ => Qz (fun v55 hv55 => Qi ?_))))))))
  obtain ⟨b55, a55, m55, c55, mm55, rfl, hge55, hb55, hcb55, ho55, F55, hF55, hS55⟩ := hv55
  obtain ⟨g55, M55, rfl, hg55, hn55, hM55, hk55⟩ := hS55
  have hlg55 := (hF55 g55 hg55).1; have hcg55 := (hF55 g55 hg55).2
  have hm55 : m55 = (l ++ [s]).length := by
   obtain ⟨a', c', he, -⟩ := Own.sl ho55 Q5
   simp only [Value.slice.injEq] at he
   exact he.2.1
  subst hm55
  obtain ⟨n2, hn2⟩ : ∃ n, n = w94.heap.size := ⟨_, rfl⟩
  have hown55 := Own.mono ho55 (D' := fun g => n1 ≤ g ∧ g < n2 ∧ g ≠ b55 ∧ g ≠ g55) (fun g h1 h2 => ⟨Nat.le_of_not_lt fun q => by have h := hc097 g (by omega); rw [h2] at h; simp at h, by omega, fun e => (by rw [e, hcb55] at h2; cases h2), fun e => (by rw [e, hcg55] at h2; cases h2)⟩)
  have hlt55 := hb55.lt
  refine Rr (asP rfl) (Qc (Qf (Qf (Qb (Rr (mvP rfl) (Rr (QJ rfl) (Rr (Qy underlying101 rfl sizeOf99 rfl) (Rr (Qm isAgg99 rfl (hb55.at.get 1 rfl)) (Rr (o_meqnil underlying99 rfl rfl) (Qc (Qq rfl (Qp (Qf ?_)))))))))))))
  apply Zl (β := False) (fun _ => 0) [peqC _, peqC _, peqC _, peqC _, peqC _, peqC _, peqC _, peqC _, peqC _, peqC _] [0, 0, 0, 0, 0, 0, 0, 0, 0, 0] 10 QV (by kernel_rfl) (by kernel_rfl) rfl ⟨Qk _ _, Qk _ _, Qk _ _, Qk _ _, Qk _ _, Qk _ _, Qk _ _, Qk _ _, Qk _ _, Qk _ _, trivial⟩ ?ob12 ?fin12
  case ob12 =>
   refine Ql (fun w99 c101 x100 hc0102 hk103 => Qi (Qx rfl (mvP rfl))) (Ql (fun w105 c107 x106 hc0108 hk109 => Qh (Qi (Qx rfl (QJ rfl)))) (Ql (fun w111 c113 x112 hc0114 hk115 => Qh (Qi (Qx rfl (Qy underlying101 rfl sizeOf99 rfl)))) (Ql (fun w117 c119 x118 hc0120 hk121 => ?_) ?_)))
   ·replace x118 := RelG.ext0 x118
    have hb55 := hb55.ext x118
    exact Qh (Qi (Qx rfl (Qm isAgg99 rfl (hb55.at.get 1 rfl))))
   refine Ql (fun w123 c125 x124 hc0126 hk127 => Qi (Qx rfl (mvT rfl))) (Ql (fun w129 c131 x130 hc0132 hk133 => Qi (Qx rfl (mvP rfl))) (Ql (fun w135 c137 x136 hc0138 hk139 => Qh (Qi (Qx rfl (QJ rfl)))) (Ql (fun w141 c143 x142 hc0144 hk145 => Qh (Qi (Qx rfl (Qy underlying101 rfl sizeOf23 rfl)))) (Ql (fun w147 c149 x148 hc0150 hk151 => ?_) ?_))))
   ·replace x148 := RelG.ext0 x148
    have hb55 := hb55.ext x148
    exact Qh (Qi (Qx rfl (Qm isAgg23 rfl (hb55.at.get 0 rfl))))
   exact Ql (fun w153 c155 x154 hc0156 hk157 => Qh (Qi (Qx rfl (QC underlying23 rfl)))) Q8
  case fin12 =>
   intro w159 c161 x160 hc0162
   replace x160 := RelG.ext0 x160
   have z163 := x160.size
   replace hX := hX.ex x160
   replace hb55 := hb55.ext x160
   replace hown55 := hown55.ext x160
   replace hM55 := hM55.ext x160
   refine Qh (Qh (Qh (Qh (Qh (Qh (Qh (Qh (Qh (Qh (Qi (Rg_nput rfl underlying99 underlying9 rfl rfl rfl hM55 ?_)))))))))))
   intro w164 x165 hM55
   have z166 := x165.size
   replace hX := Bel.out hX x165 om2
   replace hb55 := hb55.keep x165 om1
   replace hown55 := hown55.keepD x165 om3
   refine Qc (Qf ?_)
   apply Q3 (β := False) [peq _, peq _, peq _, peq _, peq _, peq _, peq _, peq _, peq _] 9 QV (by kernel_rfl) rfl ⟨Qd _, Qd _, Qd _, Qd _, Qd _, Qd _, Qd _, Qd _, Qd _, trivial⟩ ?ob13 ?fin13
   case ob13 =>
    refine Qg (fun _ _ => Qe (Qn rfl (mvP rfl))) (Qg (fun _ _ => Qe (Qn rfl (mvP rfl))) (Qg (fun _ _ => Qa (Qe (Qn rfl (QJ rfl)))) (Qg (fun _ _ => Qa (Qe (Qn rfl (Qy underlying101 rfl sizeOf23 rfl)))) (Qg (fun w179 x180 => ?_) ?_))))
    ·have hb55 := hb55.ext x180
     exact Qa (Qe (Qn rfl (Qm isAgg23 rfl (hb55.at.get 0 rfl))))
    exact Qg (fun _ _ => Qa (Qe (Qn rfl (QC underlying23 rfl)))) (Qg (fun _ _ => Qa (Qa (Qe (Qn rfl (asP rfl))))) (Qg (fun _ _ => Qa (Qa (Qa (Qa (Qa (Qa (Qa (Qa (Qa (Qe (Qn rfl (asI rfl)))))))))))) (Qg (fun _ _ => Qa (Qa (Qa (Qa (Qa (Qa (Qa (Qa (Qa (Qe (Qn rfl Qj))))))))))) QR)))
   case fin13 =>
    intro w194 x195
    replace hX := hX.ex x195
    replace hb55 := hb55.ext x195
    replace hown55 := hown55.ext x195
    replace hM55 := hM55.ext x195
    exact Qa (Qa (Qa (Qa (Qa (Qa (Qa (Qa (Qa (Qe (Qc (Qu ⟨_, res_T (vs := [.pointer _, .int _ _, .int _ _]) rfl ⟨rfl, rfl, rfl, trivial⟩ (by simp), ⟨⟨_, _, rfl, b55, a55, c55, .map (some g55), rfl, hb55.at, (hown55.slA Q5).mono (fun g hg _ => hg), .inr ⟨g55, _, rfl, hM55.lt, hM55, putM_keys hk55⟩⟩, hX⟩⟩)))))))))))
theorem nadd_ok (v0 : Value) (l : List Str) (s : Str) (hs : s.length ≤ 1100000) (most : Int) (w : World) (ht : NtM w v0 l) (hv : nmS s = true) (hn : s ∉ l) (hm : (l.length : Int) < most) (hm2 : l.length < 256) : Ok Tryz.prog 8 #[v0, str s, .int .i64 most] w fun v w' => (∃ p n, v = .tuple #[p, .int .i64 n, .int .i64 0] ∧ NtM w' p (l ++ [s])) ∧ Ext False w w' := by
 obtain ⟨p, a, c, m, rfl, h1, h2, ⟨rfl, rfl⟩ | ⟨g, M, rfl, -, h3, h4⟩⟩ := ht
 ·exact nadd0_ok p a c _ s hs most w h1 h2 hv (by simp at hm; omega)
 ·exact nadd1_ok p a c _ l g M s hs most w h1 h2 h3 h4 hv hn hm hm2
