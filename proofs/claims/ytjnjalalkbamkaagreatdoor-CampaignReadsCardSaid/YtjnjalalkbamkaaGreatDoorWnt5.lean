/- Walks: what functions return. -/
import Derived.Test.YtjnjalalkbamkaaGreatDoorWname
import Derived.Test.YtjnjalalkbamkaaGreatDoorSe
import Derived.Test.YtjnjalalkbamkaaGreatDoorWmb5
import Derived.Test.YtjnjalalkbamkaaGreatDoorWnew
set_option linter.unusedVariables false
set_option linter.unusedSimpArgs false
set_option linter.unnecessarySimpa false
namespace Go.Proofs.YtjnjalalkbamkaaGreatDoor
open Go Go.Lx Go.RowKit Tryz
set_option maxRecDepth 100000
theorem strcl_ok (w : World) (vl : Value) (l : List Str) (hl : Rd encS 1 (Lt w.heap.size) w vl l) (nl : l.length ≤ 100000) : Ok Tryz.prog 101 #[vl] w fun v w' => Own encS 1 9 (Fsh w w') w' v (l) ∧ Ext False w w' := by
 obtain ⟨al, cl, rfl, hl⟩ := hl; have ml := hl.len
 refine Qz 8 func101 rfl rfl rfl ?_
 have hX := xRf w
 refine Qe (Qc ?_)
 refine Rr Qm ?_
 refine Qd (Qe (Qe (Qc ?_)))
 refine Rr (mvS rfl) ?_
 refine Rr (o_lnil underlying96 rfl) ?_
 refine Qd ?_
 refine QD rfl (fun hc1 => ?_) (fun hc1 => ?_)
 ·have hnl := sl_none hl hc1; subst hnl
  refine Qe (Qc ?_)
  refine Rr Qm ?_
  refine Qd (Qy ?_)
  refine ⟨_, Qp rfl rfl, ?_⟩
  exact ⟨Own.nil _ _, hX⟩
 refine Qu (Qe (Qc ?_))
 refine Rg_bs (vs := []) (([] : List Str)) rfl encS_ok el_string rfl rfl trivial rfl rfl rfl rfl ?_
 intro a5 w1 x2 hown5
 have z3 := x2.size
 replace hX := hX.ex x2
 replace hl := hl.ext x2
 replace hown5 := hown5.mono (D' := fun g => w.heap.size ≤ g) (fun g h1 h2 => by omega)
 refine Rr (mvS rfl) ?_
 refine Rg_app rfl encS_ok el_string rfl rfl hown5 hl rfl (by simp; omega) omU ?_
 intro v7 w4 x5 hown5
 have z6 := x5.size
 replace hX := Bel.out hX x5 om2
 refine Rr (Qv (v := v7) rfl) ?_
 refine Qd (Qy ?_)
 refine ⟨_, Qp rfl rfl, ?_⟩
 rw [List.nil_append] at hown5; exact ⟨hown5.mono (fun g h1 h2 => by omega), hX⟩

theorem nmclone_ok (m : Nat) (M : List (Str × Int)) (w : World) (hm : Nm w m M) : Ok Tryz.prog 102 #[.map (some m)] w fun v w' => ∃ m', v = .map (some m') ∧ w.heap.size ≤ m' ∧ m' < w'.heap.size ∧ Nm w' m' M ∧ Ext False w w' := by
 refine Qz 9 func102 rfl rfl rfl ?_
 have hX := xRf w
 refine Qe (Qc ?_)
 refine Rr Qm ?_
 refine Qd (Qe (Qe (Qc ?_)))
 refine Rr (Ql (v := .map _) rfl) ?_
 refine Rr (o_meqnil underlying165 rfl rfl) ?_
 refine Qd ?_
 refine Qr rfl ?_
 refine Qu (Qe (Qc ?_))
 refine Rr (Ql (v := .map _) rfl) ?_
 refine Rr (o_mkif underlying165 rfl rfl) ?_
 refine Rg_nclone rfl x_cloneI rfl hm ?_
 intro m7 w1 x2 hge7 hlt7 hm7
 have z3 := x2.size
 replace hX := hX.ex x2
 refine Rr (o_tassert underlying165 rfl rfl) ?_
 refine Rr (Qv (v := .map _) rfl) ?_
 refine Qd (Qy ?_)
 refine ⟨_, Qp rfl rfl, ?_⟩
 exact ⟨_, rfl, by omega, by omega, hm7, hX⟩

theorem nmclone0_ok (w : World) : Ok Tryz.prog 102 #[.map none] w fun v w' => v = .map none ∧ Ext False w w' := by
 refine Qz 9 func102 rfl rfl rfl ?_
 have hX := xRf w
 refine Qe (Qc ?_)
 refine Rr Qm ?_
 refine Qd (Qe (Qe (Qc ?_)))
 refine Rr (Ql (v := .map _) rfl) ?_
 refine Rr (o_meqnil0 underlying165 rfl rfl) ?_
 refine Qd ?_
 refine Q2 rfl ?_
 refine Qe (Qc ?_)
 refine Rr Qm ?_
 refine Qd (Qy ?_)
 refine ⟨_, Qp rfl rfl, ?_⟩
 exact ⟨rfl, hX⟩

theorem ntnew_ok (w : World) : Ok Tryz.prog 68 #[] w fun v w' => NtM w' v [] ∧ Ext False w w' := by
 refine Qz 3 func68 rfl rfl rfl ?_
 have hX := xRf w
 refine Qe (Qc ?_)
 refine Rr Qm ?_
 refine Qd (Qe (Qc ?_))
 refine Rr (QZ (cells := [.slice none 0 0, .map none]) (vs := []) rfl (by kernel_rfl)) ?_
 refine QJ rfl (Q4 (v := .agg _) rfl) ?_
 intro b2 w1 x2 hge2 hb2
 have hlt2 := hb2.lt
 have z3 := x2.size
 replace hX := hX.ex x2
 refine Rr (Qv (v := .pointer _) rfl) ?_
 refine Qd (Qy ?_)
 refine ⟨_, Qp rfl rfl, ?_⟩
 change Box _ _ _ [.slice none 0 0, .map none] at hb2
 exact ⟨⟨b2, none, 0, .map none, rfl, hb2.at, Sl.none, .inl ⟨rfl, rfl⟩⟩, hX⟩

set_option maxHeartbeats 2000000 in
theorem nadd0_ok (b : Nat) (a : Option Addr) (cp : Nat) (G : Nat → Prop) (s : Str) (hs : s.length ≤ 1000000) (most : Int) (w : World) (hb : At w b 0 [.slice a 0 cp, .map none]) (hl : Sl encS 1 G w a cp ([] : List Str)) (hv : nmS s = true) (hm : 1 ≤ most) : Ok Tryz.prog 73 #[.pointer (some ⟨b, 0, none⟩), str s, .int .i64 most] w fun v w' => (∃ p n, v = .tuple #[p, .int .i64 n, .int .i64 0] ∧ NtM w' p (([] : List Str) ++ [s])) ∧ Ext False w w' := by
 have hbl := hb.lt
 replace hl := hl.mono (F' := fun g => g < w.heap.size) (fun g h1 h2 => h1)
 refine Qz 81 func73 rfl rfl rfl ?_
 have hX := xRf w
 refine Qe (Qc ?_)
 refine Rr Qm ?_
 refine Rr Qm ?_
 refine Rr Qm ?_
 refine Qd (Qe (QB (Qe (Qc ?_))))
 refine Rr (Ql (v := .pointer _) rfl) ?_
 refine Rr (o_peq underlying83 rfl rfl) ?_
 refine Rr (asB rfl) ?_
 refine Qd ?_
 refine Qr rfl ?_
 refine Qe (Qc ?_)
 refine Rr (Ql (v := str _) rfl) ?_
 refine Qo rfl (QA call100 rfl) (Ok.mono (name_ok (False) s (by omega) _) ?_)
 rintro _ w1 ⟨rfl, x2⟩
 have z3 := x2.size
 replace hX := hX.ex x2
 replace hb := hb.ext x2
 replace hl := hl.ext x2
 refine Rr (Q5 rfl) ?_
 refine Rr (asB rfl) ?_
 refine Qd ?_
 refine Qr (cvB (by rw [hv]; rfl)) ?_
 refine Qe (Qc ?_)
 refine Rr (Ql (v := .pointer _) rfl) ?_
 refine Rr (QG rfl) ?_
 refine Rr (Qx underlying167 rfl sizeOf165 rfl) ?_
 refine Rr (Qn isAgg165 rfl (hb.get 1 rfl)) ?_
 refine Rr (Ql (v := str _) rfl) ?_
 refine Rr (o_nlook0 underlying165 underlying9 zeroValue3 rfl rfl) ?_
 refine Rr (o_gtr rfl rfl) ?_
 refine Rr (asB rfl) ?_
 refine Qd ?_
 refine Qr rfl ?_
 refine Qe (Qc ?_)
 refine Rr (Ql (v := .pointer _) rfl) ?_
 refine Rr (QG rfl) ?_
 refine Rr (Qx underlying167 rfl sizeOf96 rfl) ?_
 refine Rr (Qn isAgg96 rfl (hb.get 0 rfl)) ?_
 refine Rr (QK underlying96 rfl) ?_
 refine Rr (mvI rfl) ?_
 refine Rr (o_geq rfl rfl) ?_
 refine Rr (mvB rfl) ?_
 refine Qq 7 33 rfl rfl rfl (fun hg => (Ql (v := .pointer _) rfl)) ?_
 refine Qq 7 33 rfl rfl rfl (fun hg => (QG (QE (u := undef) hg))) ?_
 refine Qq 7 33 rfl rfl rfl (fun hg => (Qx underlying167 rfl sizeOf96 (QE (u := undef) hg))) ?_
 refine Qq 7 33 rfl rfl rfl (fun hg => (Qn isAgg96 (QE (u := undef) hg) (hb.get 0 rfl))) ?_
 refine Qq 7 33 rfl rfl rfl (fun hg => (QK underlying96 (QE (u := undef) hg))) ?_
 refine Qq 7 33 rfl rfl rfl (fun hg => (o_geq (QE (u := undef) hg) rfl)) ?_
 refine Rr (o_or (u := undef) rfl rfl) ?_
 refine Rr (asB rfl) ?_
 refine Qd ?_
 refine Qr (cvB (by simp; omega)) ?_
 refine Qu (Qe ?_)
 obtain ⟨n1, hn1⟩ : ∃ n, n = w1.heap.size := ⟨_, rfl⟩
 apply Ze (β := False) (fun _ => 0) [peqC _, peqC _, peqC _, peqC _, (postOwn encS 1 9 1 ([] : List Str)), peqC _, (fun v w cc => ∃ a, v = .slice a 1 1 ∧ postOwn encS 1 9 0 [s] v w cc), (postOwn encS 1 9 1 (([] : List Str) ++ [s])), peqC _, peqC _, peqC _, peqC _, (postW Nm0), (postAg Nm0 encS 1 9 1 (([] : List Str) ++ [s])), (postBx w1 167 Nm0 encS 1 9 1 (([] : List Str) ++ [s]))] [0, 0, 0, 0, 1, 0, 0, 1, 0, 0, 0, 0, 0, 1, 1] 15 Q9 (by kernel_rfl) (by kernel_rfl) rfl ⟨Qi _ _, Qi _ _, Qi _ _, Qi _ _, (Q1), Qi _ _, (postBs_stable), (Q1), Qi _ _, Qi _ _, Qi _ _, Qi _ _, (postW_stable Nm0.keepS), (postAg_stable Nm0.keepS), (postBx_stable Nm0.keepS), trivial⟩ ?ob9 ?fin9
 case ob9 =>
  refine Qk (fun w4 c6 x5 hc07 hk8 => ?_) ?_
  ·replace x5 := RelG.ext0 x5
   have z9 := x5.size
   refine Qj ?_
   exact Qs rfl (Ql (v := .pointer _) rfl)
  refine Qk (fun w10 c12 x11 hc013 hk14 => ?_) ?_
  ·replace x11 := RelG.ext0 x11
   have z15 := x11.size
   refine Qb (Qj ?_)
   exact Qs rfl (QG rfl)
  refine Qk (fun w16 c18 x17 hc019 hk20 => ?_) ?_
  ·replace x17 := RelG.ext0 x17
   have z21 := x17.size
   refine Qb (Qj ?_)
   exact Qs rfl (Qx underlying167 rfl sizeOf96 rfl)
  refine Qk (fun w22 c24 x23 hc025 hk26 => ?_) ?_
  ·replace x23 := RelG.ext0 x23
   have z27 := x23.size
   have hb := hb.ext x23
   refine Qb (Qj ?_)
   exact Qs rfl (Qn isAgg96 rfl (hb.get 0 rfl))
  refine Qk (fun w28 c30 x29 hc031 hk32 => ?_) ?_
  ·replace x29 := RelG.ext0 x29
   have z33 := x29.size
   have hl := hl.ext x29
   refine Qb (Qj ?_)
   exact OpC_own rfl (QA call101 rfl) (strcl_ok _ _ ([] : List Str) hl.trd (by simp; done))
  refine Qk (fun w34 c36 x35 hc037 hk38 => ?_) ?_
  ·replace x35 := RelG.ext0 x35
   have z39 := x35.size
   refine Qj ?_
   exact Qs rfl (Ql (v := str _) rfl)
  refine Qk (fun w40 c42 x41 hc043 hk44 => ?_) ?_
  ·replace x41 := RelG.ext0 x41
   have z45 := x41.size
   refine Qb (Qj ?_)
   exact OpC_bs (vs := [str _]) [s] encS_ok el_string rfl rfl ⟨rfl, trivial⟩ rfl rfl rfl rfl
  refine Qk (fun w46 c48 x47 hc049 hk50 => ?_) ?_
  ·replace x47 := RelG.ext0 x47
   have z51 := x47.size
   refine Qw (fun v45 hv45 => ?_)
   refine Qw (fun v47 hv47 => ?_)
   obtain ⟨a47, rfl, ho47⟩ := hv47
   refine Qw (fun v45 hv45 => ?_)
   refine Qj ?_
   exact OpC_app (by decide) encS_ok el_string rfl rfl hv45 (Own.slA ho47 encS_ok) rfl (by simp; done)
  refine Qk (fun w52 c54 x53 hc055 hk56 => ?_) ?_
  ·replace x53 := RelG.ext0 x53
   have z57 := x53.size
   refine Qj ?_
   exact Qs rfl (Ql (v := .pointer _) rfl)
  refine Qk (fun w58 c60 x59 hc061 hk62 => ?_) ?_
  ·replace x59 := RelG.ext0 x59
   have z63 := x59.size
   refine Qb (Qj ?_)
   exact Qs rfl (QG rfl)
  refine Qk (fun w64 c66 x65 hc067 hk68 => ?_) ?_
  ·replace x65 := RelG.ext0 x65
   have z69 := x65.size
   refine Qb (Qj ?_)
   exact Qs rfl (Qx underlying167 rfl sizeOf165 rfl)
  refine Qk (fun w70 c72 x71 hc073 hk74 => ?_) ?_
  ·replace x71 := RelG.ext0 x71
   have z75 := x71.size
   have hb := hb.ext x71
   refine Qb (Qj ?_)
   exact Qs rfl (Qn isAgg165 rfl (hb.get 1 rfl))
  refine Qk (fun w76 c78 x77 hc079 hk80 => ?_) ?_
  ·replace x77 := RelG.ext0 x77
   have z81 := x77.size
   refine Qb ?_
   refine Qw (fun v48 hv48 => ?_)
   refine Qj ?_
   exact OpC_W (S := Nm0) rfl (QA call102 rfl) (nmclone0_ok _)
  refine Qk (fun w82 c84 x83 hc085 hk86 => ?_) ?_
  ·replace x83 := RelG.ext0 x83
   have z87 := x83.size
   refine Qw (fun v48 hv48 => ?_)
   refine Qw (fun v53 hv53 => ?_)
   refine Qj ?_
   obtain ⟨a48, c48, rfl, -⟩ := Own.sl hv48 encS_ok
   obtain ⟨F53, hF53, hS53⟩ := hv53
   have hz53 : v53 = .map none := hS53
   subst hz53
   exact OpC_vp rfl (QZ (cells := [.slice a48 (([] : List Str) ++ [s]).length c48, .map none]) (vs := [(0, .slice _ _ _), (1, .map _)]) rfl (by kernel_rfl)) ⟨a48, _, c48, _, rfl, hv48, F53, hF53, hS53⟩
  refine Qk (fun w88 c90 x89 hc091 hk92 => ?_) ?_
  ·replace x89 := RelG.ext0 x89
   have z93 := x89.size
   refine Qw (fun v54 hv54 => ?_)
   refine Qj ?_
   exact OpC_bx Nm0.keepS (Bel.size x89) rfl (Q4 (v := v54) rfl) hv54
  exact Q8
 case fin9 =>
  intro w94 c96 x95 hc097
  replace x95 := RelG.ext0 x95
  have z98 := x95.size
  replace hX := hX.ex x95
  refine Qb (Qb (Qb (Qb ?_)))
  refine Qw (fun v45 _ => ?_)
  refine Qb ?_
  refine Qw (fun v47 hv47 => ?_)
  obtain ⟨a47, rfl, ho47⟩ := hv47
  refine Qw (fun v48 _ => ?_)
  refine Qb (Qb (Qb (Qb ?_)))
  refine Qw (fun v53 hv53 => ?_)
  refine Qw (fun v54 _ => ?_)
  refine Qw (fun v55 hv55 => ?_)
  refine Qj ?_
  obtain ⟨b55, a55, m55, c55, mm55, rfl, hge55, hb55, hcb55, ho55, F55, hF55, hS55⟩ := hv55
  have hz55 : mm55 = .map none := hS55
  subst hz55
  have hm55 : m55 = (([] : List Str) ++ [s]).length := by
   obtain ⟨a', c', he, -⟩ := Own.sl ho55 encS_ok
   simp only [Value.slice.injEq] at he
   exact he.2.1
  subst hm55
  obtain ⟨n2, hn2⟩ : ∃ n, n = w94.heap.size := ⟨_, rfl⟩
  have hown55 := Own.mono ho55 (D' := fun g => n1 ≤ g ∧ g < n2 ∧ g ≠ b55) (fun g h1 h2 => ⟨Nat.le_of_not_lt fun q => by have h := hc097 g (by omega); rw [h2] at h; simp at h, by omega, fun e => (by rw [e, hcb55] at h2; cases h2)⟩)
  have hlt55 := hb55.lt
  refine Rr (Qv (v := .pointer _) rfl) ?_
  refine Qd (Qe (Qe (Qc ?_)))
  refine Rr (Ql (v := .pointer _) rfl) ?_
  refine Rr (QG rfl) ?_
  refine Rr (Qx underlying167 rfl sizeOf165 rfl) ?_
  refine Rr (Qn isAgg165 rfl (hb55.at.get 1 rfl)) ?_
  refine Rr (o_meqnil0 underlying165 rfl rfl) ?_
  refine Qd ?_
  refine Q2 rfl ?_
  refine Qc ?_
  refine Rr (Ql (v := .pointer _) rfl) ?_
  refine Rg_nmk rfl ?_
  intro m62 w99 x100 hge62 hlt62 hm62
  have z101 := x100.size
  replace hX := hX.ex x100
  replace hb55 := hb55.ext x100
  replace hown55 := hown55.ext x100
  refine Rr (QG rfl) ?_
  refine Rr (Qx underlying167 rfl sizeOf165 rfl) ?_
  refine QY (v := .map _) rfl sizeOf165 rfl rfl hb55 rfl rfl rfl ?_
  intro w102 c103 hb55
  have z104 := Bel.size c103
  replace hX := Bel.out hX c103 om2
  replace hown55 := hown55.keepD c103 om3
  replace hm62 := hm62.keep c103 om1
  refine Qd (Qe ?_)
  apply Ze (β := False) (fun _ => 0) [peqC _, peqC _, peqC _, peqC _, peqC _, peqC _, peqC _, peqC _, peqC _, peqC _] [0, 0, 0, 0, 0, 0, 0, 0, 0, 0] 10 Q9 (by kernel_rfl) (by kernel_rfl) rfl ⟨Qi _ _, Qi _ _, Qi _ _, Qi _ _, Qi _ _, Qi _ _, Qi _ _, Qi _ _, Qi _ _, Qi _ _, trivial⟩ ?ob12 ?fin12
  case ob12 =>
   refine Qk (fun w105 c107 x106 hc0108 hk109 => ?_) ?_
   ·replace x106 := RelG.ext0 x106
    have z110 := x106.size
    refine Qj ?_
    exact Qs rfl (Ql (v := .pointer _) rfl)
   refine Qk (fun w111 c113 x112 hc0114 hk115 => ?_) ?_
   ·replace x112 := RelG.ext0 x112
    have z116 := x112.size
    refine Qb (Qj ?_)
    exact Qs rfl (QG rfl)
   refine Qk (fun w117 c119 x118 hc0120 hk121 => ?_) ?_
   ·replace x118 := RelG.ext0 x118
    have z122 := x118.size
    refine Qb (Qj ?_)
    exact Qs rfl (Qx underlying167 rfl sizeOf165 rfl)
   refine Qk (fun w123 c125 x124 hc0126 hk127 => ?_) ?_
   ·replace x124 := RelG.ext0 x124
    have z128 := x124.size
    have hb55 := hb55.ext x124
    refine Qb (Qj ?_)
    exact Qs rfl (Qn isAgg165 rfl (hb55.at.get 1 rfl))
   refine Qk (fun w129 c131 x130 hc0132 hk133 => ?_) ?_
   ·replace x130 := RelG.ext0 x130
    have z134 := x130.size
    refine Qj ?_
    exact Qs rfl (Ql (v := str _) rfl)
   refine Qk (fun w135 c137 x136 hc0138 hk139 => ?_) ?_
   ·replace x136 := RelG.ext0 x136
    have z140 := x136.size
    refine Qj ?_
    exact Qs rfl (Ql (v := .pointer _) rfl)
   refine Qk (fun w141 c143 x142 hc0144 hk145 => ?_) ?_
   ·replace x142 := RelG.ext0 x142
    have z146 := x142.size
    refine Qb (Qj ?_)
    exact Qs rfl (QG rfl)
   refine Qk (fun w147 c149 x148 hc0150 hk151 => ?_) ?_
   ·replace x148 := RelG.ext0 x148
    have z152 := x148.size
    refine Qb (Qj ?_)
    exact Qs rfl (Qx underlying167 rfl sizeOf96 rfl)
   refine Qk (fun w153 c155 x154 hc0156 hk157 => ?_) ?_
   ·replace x154 := RelG.ext0 x154
    have z158 := x154.size
    have hb55 := hb55.ext x154
    refine Qb (Qj ?_)
    exact Qs rfl (Qn isAgg96 rfl (hb55.at.get 0 rfl))
   refine Qk (fun w159 c161 x160 hc0162 hk163 => ?_) ?_
   ·replace x160 := RelG.ext0 x160
    have z164 := x160.size
    refine Qb (Qj ?_)
    exact Qs rfl (QK underlying96 rfl)
   exact Q8
  case fin12 =>
   intro w165 c167 x166 hc0168
   replace x166 := RelG.ext0 x166
   have z169 := x166.size
   replace hX := hX.ex x166
   replace hb55 := hb55.ext x166
   replace hown55 := hown55.ext x166
   replace hm62 := hm62.ext x166
   refine Qb (Qb (Qb (Qb (Qb (Qb (Qb (Qb (Qb ?_))))))))
   refine Qb (Qj ?_)
   refine Rg_nput rfl underlying165 underlying9 rfl rfl rfl hm62 ?_
   intro w170 x171 hm62
   have z172 := x171.size
   replace hX := Bel.out hX x171 om2
   replace hb55 := hb55.keep x171 om1
   replace hown55 := hown55.keepD x171 om3
   refine Qd (Qe ?_)
   apply W_draw (β := False) [peq _, peq _, peq _, peq _, peq _, peq _, peq _, peq _, peq _] 9 Q9 (by kernel_rfl) rfl ⟨Qf _, Qf _, Qf _, Qf _, Qf _, Qf _, Qf _, Qf _, Qf _, trivial⟩ ?ob13 ?fin13
   case ob13 =>
    refine Qh (fun w173 x174 => ?_) ?_
    ·have z175 := x174.size
     refine Qg ?_
     exact Qt rfl (Ql (v := .pointer _) rfl)
    refine Qh (fun w176 x177 => ?_) ?_
    ·have z178 := x177.size
     refine Qg ?_
     exact Qt rfl (Ql (v := .pointer _) rfl)
    refine Qh (fun w179 x180 => ?_) ?_
    ·have z181 := x180.size
     refine Qa (Qg ?_)
     exact Qt rfl (QG rfl)
    refine Qh (fun w182 x183 => ?_) ?_
    ·have z184 := x183.size
     refine Qa (Qg ?_)
     exact Qt rfl (Qx underlying167 rfl sizeOf96 rfl)
    refine Qh (fun w185 x186 => ?_) ?_
    ·have z187 := x186.size
     have hb55 := hb55.ext x186
     refine Qa (Qg ?_)
     exact Qt rfl (Qn isAgg96 rfl (hb55.at.get 0 rfl))
    refine Qh (fun w188 x189 => ?_) ?_
    ·have z190 := x189.size
     refine Qa (Qg ?_)
     exact Qt rfl (QK underlying96 rfl)
    refine Qh (fun w191 x192 => ?_) ?_
    ·have z193 := x192.size
     refine Qa (Qa (Qg ?_))
     exact Qt rfl (Qv (v := .pointer _) rfl)
    refine Qh (fun w194 x195 => ?_) ?_
    ·have z196 := x195.size
     refine Qa (Qa (Qa (Qa (Qa (Qa (Qa (Qa (Qa ?_))))))))
     refine Qg ?_
     exact Qt rfl (asI rfl)
    refine Qh (fun w197 x198 => ?_) ?_
    ·have z199 := x198.size
     refine Qa (Qa (Qa (Qa (Qa (Qa (Qa (Qa (Qa ?_))))))))
     refine Qg ?_
     exact Qt rfl Qm
    exact Q7
   case fin13 =>
    intro w200 x201
    have z202 := x201.size
    replace hX := hX.ex x201
    replace hb55 := hb55.ext x201
    replace hown55 := hown55.ext x201
    replace hm62 := hm62.ext x201
    refine Qa (Qa (Qa (Qa (Qa (Qa (Qa (Qa (Qa ?_))))))))
    refine Qg (Qd (Qy ?_))
    refine ⟨_, res_T (vs := [.pointer _, .int _ _, .int _ _]) rfl ⟨rfl, rfl, rfl, trivial⟩ (by simp), ?_⟩
    exact ⟨⟨_, _, rfl, b55, a55, c55, .map (some m62), rfl, hb55.at, (hown55.slA encS_ok).mono (fun g hg _ => hg), .inr ⟨m62, _, rfl, hm62.lt, hm62, putM_keys (l := []) (by simp)⟩⟩, hX⟩

set_option maxHeartbeats 2000000 in
theorem nadd1_ok (b : Nat) (a : Option Addr) (cp : Nat) (G : Nat → Prop) (l : List Str) (gm : Nat) (M : List (Str × Int)) (s : Str) (hs : s.length ≤ 1000000) (most : Int) (w : World) (hb : At w b 0 [.slice a l.length cp, .map (some gm)]) (hl : Sl encS 1 G w a cp l) (hM : Nm w gm M) (hk : ∀ p ∈ M, p.1 ∈ l) (hv : nmS s = true) (hn : s ∉ l) (hm : (l.length : Int) < most) (hm2 : l.length < 256) : Ok Tryz.prog 73 #[.pointer (some ⟨b, 0, none⟩), str s, .int .i64 most] w fun v w' => (∃ p n, v = .tuple #[p, .int .i64 n, .int .i64 0] ∧ NtM w' p (l ++ [s])) ∧ Ext False w w' := by
 have hbl := hb.lt
 replace hl := hl.mono (F' := fun g => g < w.heap.size) (fun g h1 h2 => h1)
 have hlen := hl.len
 have hgl := hM.lt
 refine Qz 81 func73 rfl rfl rfl ?_
 have hX := xRf w
 refine Qe (Qc ?_)
 refine Rr Qm ?_
 refine Rr Qm ?_
 refine Rr Qm ?_
 refine Qd (Qe (QB (Qe (Qc ?_))))
 refine Rr (Ql (v := .pointer _) rfl) ?_
 refine Rr (o_peq underlying83 rfl rfl) ?_
 refine Rr (asB rfl) ?_
 refine Qd ?_
 refine Qr rfl ?_
 refine Qe (Qc ?_)
 refine Rr (Ql (v := str _) rfl) ?_
 refine Qo rfl (QA call100 rfl) (Ok.mono (name_ok (False) s (by omega) _) ?_)
 rintro _ w1 ⟨rfl, x2⟩
 have z3 := x2.size
 replace hX := hX.ex x2
 replace hb := hb.ext x2
 replace hl := hl.ext x2
 replace hM := hM.ext x2
 refine Rr (Q5 rfl) ?_
 refine Rr (asB rfl) ?_
 refine Qd ?_
 refine Qr (cvB (by rw [hv]; rfl)) ?_
 refine Qe (Qc ?_)
 refine Rr (Ql (v := .pointer _) rfl) ?_
 refine Rr (QG rfl) ?_
 refine Rr (Qx underlying167 rfl sizeOf165 rfl) ?_
 refine Rr (Qn isAgg165 rfl (hb.get 1 rfl)) ?_
 refine Rr (Ql (v := str _) rfl) ?_
 refine Rr (o_nlook underlying165 underlying9 zeroValue3 hM rfl rfl (fun p hp e => hn (e ▸ hk p hp))) ?_
 refine Rr (o_gtr rfl rfl) ?_
 refine Rr (asB rfl) ?_
 refine Qd ?_
 refine Qr rfl ?_
 refine Qe (Qc ?_)
 refine Rr (Ql (v := .pointer _) rfl) ?_
 refine Rr (QG rfl) ?_
 refine Rr (Qx underlying167 rfl sizeOf96 rfl) ?_
 refine Rr (Qn isAgg96 rfl (hb.get 0 rfl)) ?_
 refine Rr (QK underlying96 rfl) ?_
 refine Rr (mvI rfl) ?_
 refine Rr (o_geq rfl rfl) ?_
 refine Rr (mvB rfl) ?_
 refine Qq 7 33 rfl rfl rfl (fun hg => (Ql (v := .pointer _) rfl)) ?_
 refine Qq 7 33 rfl rfl rfl (fun hg => (QG (QE (u := undef) hg))) ?_
 refine Qq 7 33 rfl rfl rfl (fun hg => (Qx underlying167 rfl sizeOf96 (QE (u := undef) hg))) ?_
 refine Qq 7 33 rfl rfl rfl (fun hg => (Qn isAgg96 (QE (u := undef) hg) (hb.get 0 rfl))) ?_
 refine Qq 7 33 rfl rfl rfl (fun hg => (QK underlying96 (QE (u := undef) hg))) ?_
 refine Qq 7 33 rfl rfl rfl (fun hg => (o_geq (QE (u := undef) hg) rfl)) ?_
 refine Rr (o_or (u := undef) rfl rfl) ?_
 refine Rr (asB rfl) ?_
 refine Qd ?_
 refine Qr (cvB (by simp; omega)) ?_
 refine Qu (Qe ?_)
 obtain ⟨n1, hn1⟩ : ∃ n, n = w1.heap.size := ⟨_, rfl⟩
 apply Ze (β := False) (fun _ => 0) [peqC _, peqC _, peqC _, peqC _, (postOwn encS 1 9 1 l), peqC _, (fun v w cc => ∃ a, v = .slice a 1 1 ∧ postOwn encS 1 9 0 [s] v w cc), (postOwn encS 1 9 1 (l ++ [s])), peqC _, peqC _, peqC _, peqC _, (postW (NmG n1 l)), (postAg (NmG n1 l) encS 1 9 1 (l ++ [s])), (postBx w1 167 (NmG n1 l) encS 1 9 1 (l ++ [s]))] [0, 0, 0, 0, 1, 0, 0, 1, 0, 0, 0, 0, 0, 1, 1] 15 Q9 (by kernel_rfl) (by kernel_rfl) rfl ⟨Qi _ _, Qi _ _, Qi _ _, Qi _ _, (Q1), Qi _ _, (postBs_stable), (Q1), Qi _ _, Qi _ _, Qi _ _, Qi _ _, (postW_stable (NmG.keepS n1 l)), (postAg_stable (NmG.keepS n1 l)), (postBx_stable (NmG.keepS n1 l)), trivial⟩ ?ob9 ?fin9
 case ob9 =>
  refine Qk (fun w4 c6 x5 hc07 hk8 => ?_) ?_
  ·replace x5 := RelG.ext0 x5
   have z9 := x5.size
   refine Qj ?_
   exact Qs rfl (Ql (v := .pointer _) rfl)
  refine Qk (fun w10 c12 x11 hc013 hk14 => ?_) ?_
  ·replace x11 := RelG.ext0 x11
   have z15 := x11.size
   refine Qb (Qj ?_)
   exact Qs rfl (QG rfl)
  refine Qk (fun w16 c18 x17 hc019 hk20 => ?_) ?_
  ·replace x17 := RelG.ext0 x17
   have z21 := x17.size
   refine Qb (Qj ?_)
   exact Qs rfl (Qx underlying167 rfl sizeOf96 rfl)
  refine Qk (fun w22 c24 x23 hc025 hk26 => ?_) ?_
  ·replace x23 := RelG.ext0 x23
   have z27 := x23.size
   have hb := hb.ext x23
   refine Qb (Qj ?_)
   exact Qs rfl (Qn isAgg96 rfl (hb.get 0 rfl))
  refine Qk (fun w28 c30 x29 hc031 hk32 => ?_) ?_
  ·replace x29 := RelG.ext0 x29
   have z33 := x29.size
   have hl := hl.ext x29
   refine Qb (Qj ?_)
   exact OpC_own rfl (QA call101 rfl) (strcl_ok _ _ l hl.trd (by omega))
  refine Qk (fun w34 c36 x35 hc037 hk38 => ?_) ?_
  ·replace x35 := RelG.ext0 x35
   have z39 := x35.size
   refine Qj ?_
   exact Qs rfl (Ql (v := str _) rfl)
  refine Qk (fun w40 c42 x41 hc043 hk44 => ?_) ?_
  ·replace x41 := RelG.ext0 x41
   have z45 := x41.size
   refine Qb (Qj ?_)
   exact OpC_bs (vs := [str _]) [s] encS_ok el_string rfl rfl ⟨rfl, trivial⟩ rfl rfl rfl rfl
  refine Qk (fun w46 c48 x47 hc049 hk50 => ?_) ?_
  ·replace x47 := RelG.ext0 x47
   have z51 := x47.size
   refine Qw (fun v45 hv45 => ?_)
   refine Qw (fun v47 hv47 => ?_)
   obtain ⟨a47, rfl, ho47⟩ := hv47
   refine Qw (fun v45 hv45 => ?_)
   refine Qj ?_
   exact OpC_app (by decide) encS_ok el_string rfl rfl hv45 (Own.slA ho47 encS_ok) rfl (by simp; omega)
  refine Qk (fun w52 c54 x53 hc055 hk56 => ?_) ?_
  ·replace x53 := RelG.ext0 x53
   have z57 := x53.size
   refine Qj ?_
   exact Qs rfl (Ql (v := .pointer _) rfl)
  refine Qk (fun w58 c60 x59 hc061 hk62 => ?_) ?_
  ·replace x59 := RelG.ext0 x59
   have z63 := x59.size
   refine Qb (Qj ?_)
   exact Qs rfl (QG rfl)
  refine Qk (fun w64 c66 x65 hc067 hk68 => ?_) ?_
  ·replace x65 := RelG.ext0 x65
   have z69 := x65.size
   refine Qb (Qj ?_)
   exact Qs rfl (Qx underlying167 rfl sizeOf165 rfl)
  refine Qk (fun w70 c72 x71 hc073 hk74 => ?_) ?_
  ·replace x71 := RelG.ext0 x71
   have z75 := x71.size
   have hb := hb.ext x71
   refine Qb (Qj ?_)
   exact Qs rfl (Qn isAgg165 rfl (hb.get 1 rfl))
  refine Qk (fun w76 c78 x77 hc079 hk80 => ?_) ?_
  ·replace x77 := RelG.ext0 x77
   have z81 := x77.size
   have hM := hM.ext x77
   refine Qb ?_
   refine Qw (fun v48 hv48 => ?_)
   refine Qj ?_
   exact OpC_W (S := (NmG n1 l)) rfl (QA call102 rfl) ((nmclone_ok gm M _ hM).mono (fun v w2 ⟨m', h1, h2, h3, h4, x⟩ => ⟨⟨m', M, h1, ⟨h2, h3⟩, by omega, h4, hk⟩, x⟩))
  refine Qk (fun w82 c84 x83 hc085 hk86 => ?_) ?_
  ·replace x83 := RelG.ext0 x83
   have z87 := x83.size
   refine Qw (fun v48 hv48 => ?_)
   refine Qw (fun v53 hv53 => ?_)
   refine Qj ?_
   obtain ⟨a48, c48, rfl, -⟩ := Own.sl hv48 encS_ok
   obtain ⟨F53, hF53, g53, M53, rfl, hS53⟩ := hv53
   exact OpC_vp rfl (QZ (cells := [.slice a48 (l ++ [s]).length c48, .map (some g53)]) (vs := [(0, .slice _ _ _), (1, .map _)]) rfl (by kernel_rfl)) ⟨a48, _, c48, _, rfl, hv48, F53, hF53, g53, M53, rfl, hS53⟩
  refine Qk (fun w88 c90 x89 hc091 hk92 => ?_) ?_
  ·replace x89 := RelG.ext0 x89
   have z93 := x89.size
   refine Qw (fun v54 hv54 => ?_)
   refine Qj ?_
   exact OpC_bx (NmG.keepS n1 l) (Bel.size x89) rfl (Q4 (v := v54) rfl) hv54
  exact Q8
 case fin9 =>
  intro w94 c96 x95 hc097
  replace x95 := RelG.ext0 x95
  have z98 := x95.size
  replace hX := hX.ex x95
  refine Qb (Qb (Qb (Qb ?_)))
  refine Qw (fun v45 _ => ?_)
  refine Qb ?_
  refine Qw (fun v47 hv47 => ?_)
  obtain ⟨a47, rfl, ho47⟩ := hv47
  refine Qw (fun v48 _ => ?_)
  refine Qb (Qb (Qb (Qb ?_)))
  refine Qw (fun v53 hv53 => ?_)
  refine Qw (fun v54 _ => ?_)
  refine Qw (fun v55 hv55 => ?_)
  refine Qj ?_
  obtain ⟨b55, a55, m55, c55, mm55, rfl, hge55, hb55, hcb55, ho55, F55, hF55, hS55⟩ := hv55
  obtain ⟨g55, M55, rfl, hg55, hn55, hM55, hk55⟩ := hS55
  have hlg55 := (hF55 g55 hg55).1; have hcg55 := (hF55 g55 hg55).2
  have hm55 : m55 = (l ++ [s]).length := by
   obtain ⟨a', c', he, -⟩ := Own.sl ho55 encS_ok
   simp only [Value.slice.injEq] at he
   exact he.2.1
  subst hm55
  obtain ⟨n2, hn2⟩ : ∃ n, n = w94.heap.size := ⟨_, rfl⟩
  have hown55 := Own.mono ho55 (D' := fun g => n1 ≤ g ∧ g < n2 ∧ g ≠ b55 ∧ g ≠ g55) (fun g h1 h2 => ⟨Nat.le_of_not_lt fun q => by have h := hc097 g (by omega); rw [h2] at h; simp at h, by omega, fun e => (by rw [e, hcb55] at h2; cases h2), fun e => (by rw [e, hcg55] at h2; cases h2)⟩)
  have hlt55 := hb55.lt
  refine Rr (Qv (v := .pointer _) rfl) ?_
  refine Qd (Qe (Qe (Qc ?_)))
  refine Rr (Ql (v := .pointer _) rfl) ?_
  refine Rr (QG rfl) ?_
  refine Rr (Qx underlying167 rfl sizeOf165 rfl) ?_
  refine Rr (Qn isAgg165 rfl (hb55.at.get 1 rfl)) ?_
  refine Rr (o_meqnil underlying165 rfl rfl) ?_
  refine Qd ?_
  refine Qr rfl ?_
  refine Qu (Qe ?_)
  apply Ze (β := False) (fun _ => 0) [peqC _, peqC _, peqC _, peqC _, peqC _, peqC _, peqC _, peqC _, peqC _, peqC _] [0, 0, 0, 0, 0, 0, 0, 0, 0, 0] 10 Q9 (by kernel_rfl) (by kernel_rfl) rfl ⟨Qi _ _, Qi _ _, Qi _ _, Qi _ _, Qi _ _, Qi _ _, Qi _ _, Qi _ _, Qi _ _, Qi _ _, trivial⟩ ?ob12 ?fin12
  case ob12 =>
   refine Qk (fun w99 c101 x100 hc0102 hk103 => ?_) ?_
   ·replace x100 := RelG.ext0 x100
    have z104 := x100.size
    refine Qj ?_
    exact Qs rfl (Ql (v := .pointer _) rfl)
   refine Qk (fun w105 c107 x106 hc0108 hk109 => ?_) ?_
   ·replace x106 := RelG.ext0 x106
    have z110 := x106.size
    refine Qb (Qj ?_)
    exact Qs rfl (QG rfl)
   refine Qk (fun w111 c113 x112 hc0114 hk115 => ?_) ?_
   ·replace x112 := RelG.ext0 x112
    have z116 := x112.size
    refine Qb (Qj ?_)
    exact Qs rfl (Qx underlying167 rfl sizeOf165 rfl)
   refine Qk (fun w117 c119 x118 hc0120 hk121 => ?_) ?_
   ·replace x118 := RelG.ext0 x118
    have z122 := x118.size
    have hb55 := hb55.ext x118
    refine Qb (Qj ?_)
    exact Qs rfl (Qn isAgg165 rfl (hb55.at.get 1 rfl))
   refine Qk (fun w123 c125 x124 hc0126 hk127 => ?_) ?_
   ·replace x124 := RelG.ext0 x124
    have z128 := x124.size
    refine Qj ?_
    exact Qs rfl (Ql (v := str _) rfl)
   refine Qk (fun w129 c131 x130 hc0132 hk133 => ?_) ?_
   ·replace x130 := RelG.ext0 x130
    have z134 := x130.size
    refine Qj ?_
    exact Qs rfl (Ql (v := .pointer _) rfl)
   refine Qk (fun w135 c137 x136 hc0138 hk139 => ?_) ?_
   ·replace x136 := RelG.ext0 x136
    have z140 := x136.size
    refine Qb (Qj ?_)
    exact Qs rfl (QG rfl)
   refine Qk (fun w141 c143 x142 hc0144 hk145 => ?_) ?_
   ·replace x142 := RelG.ext0 x142
    have z146 := x142.size
    refine Qb (Qj ?_)
    exact Qs rfl (Qx underlying167 rfl sizeOf96 rfl)
   refine Qk (fun w147 c149 x148 hc0150 hk151 => ?_) ?_
   ·replace x148 := RelG.ext0 x148
    have z152 := x148.size
    have hb55 := hb55.ext x148
    refine Qb (Qj ?_)
    exact Qs rfl (Qn isAgg96 rfl (hb55.at.get 0 rfl))
   refine Qk (fun w153 c155 x154 hc0156 hk157 => ?_) ?_
   ·replace x154 := RelG.ext0 x154
    have z158 := x154.size
    refine Qb (Qj ?_)
    exact Qs rfl (QK underlying96 rfl)
   exact Q8
  case fin12 =>
   intro w159 c161 x160 hc0162
   replace x160 := RelG.ext0 x160
   have z163 := x160.size
   replace hX := hX.ex x160
   replace hb55 := hb55.ext x160
   replace hown55 := hown55.ext x160
   replace hM55 := hM55.ext x160
   refine Qb (Qb (Qb (Qb (Qb (Qb (Qb (Qb (Qb ?_))))))))
   refine Qb (Qj ?_)
   refine Rg_nput rfl underlying165 underlying9 rfl rfl rfl hM55 ?_
   intro w164 x165 hM55
   have z166 := x165.size
   replace hX := Bel.out hX x165 om2
   replace hb55 := hb55.keep x165 om1
   replace hown55 := hown55.keepD x165 om3
   refine Qd (Qe ?_)
   apply W_draw (β := False) [peq _, peq _, peq _, peq _, peq _, peq _, peq _, peq _, peq _] 9 Q9 (by kernel_rfl) rfl ⟨Qf _, Qf _, Qf _, Qf _, Qf _, Qf _, Qf _, Qf _, Qf _, trivial⟩ ?ob13 ?fin13
   case ob13 =>
    refine Qh (fun w167 x168 => ?_) ?_
    ·have z169 := x168.size
     refine Qg ?_
     exact Qt rfl (Ql (v := .pointer _) rfl)
    refine Qh (fun w170 x171 => ?_) ?_
    ·have z172 := x171.size
     refine Qg ?_
     exact Qt rfl (Ql (v := .pointer _) rfl)
    refine Qh (fun w173 x174 => ?_) ?_
    ·have z175 := x174.size
     refine Qa (Qg ?_)
     exact Qt rfl (QG rfl)
    refine Qh (fun w176 x177 => ?_) ?_
    ·have z178 := x177.size
     refine Qa (Qg ?_)
     exact Qt rfl (Qx underlying167 rfl sizeOf96 rfl)
    refine Qh (fun w179 x180 => ?_) ?_
    ·have z181 := x180.size
     have hb55 := hb55.ext x180
     refine Qa (Qg ?_)
     exact Qt rfl (Qn isAgg96 rfl (hb55.at.get 0 rfl))
    refine Qh (fun w182 x183 => ?_) ?_
    ·have z184 := x183.size
     refine Qa (Qg ?_)
     exact Qt rfl (QK underlying96 rfl)
    refine Qh (fun w185 x186 => ?_) ?_
    ·have z187 := x186.size
     refine Qa (Qa (Qg ?_))
     exact Qt rfl (Qv (v := .pointer _) rfl)
    refine Qh (fun w188 x189 => ?_) ?_
    ·have z190 := x189.size
     refine Qa (Qa (Qa (Qa (Qa (Qa (Qa (Qa (Qa ?_))))))))
     refine Qg ?_
     exact Qt rfl (asI rfl)
    refine Qh (fun w191 x192 => ?_) ?_
    ·have z193 := x192.size
     refine Qa (Qa (Qa (Qa (Qa (Qa (Qa (Qa (Qa ?_))))))))
     refine Qg ?_
     exact Qt rfl Qm
    exact Q7
   case fin13 =>
    intro w194 x195
    have z196 := x195.size
    replace hX := hX.ex x195
    replace hb55 := hb55.ext x195
    replace hown55 := hown55.ext x195
    replace hM55 := hM55.ext x195
    refine Qa (Qa (Qa (Qa (Qa (Qa (Qa (Qa (Qa ?_))))))))
    refine Qg (Qd (Qy ?_))
    refine ⟨_, res_T (vs := [.pointer _, .int _ _, .int _ _]) rfl ⟨rfl, rfl, rfl, trivial⟩ (by simp), ?_⟩
    exact ⟨⟨_, _, rfl, b55, a55, c55, .map (some g55), rfl, hb55.at, (hown55.slA encS_ok).mono (fun g hg _ => hg), .inr ⟨g55, _, rfl, hM55.lt, hM55, putM_keys hk55⟩⟩, hX⟩

theorem nadd_ok (v0 : Value) (l : List Str) (s : Str) (hs : s.length ≤ 1000000) (most : Int) (w : World) (ht : NtM w v0 l) (hv : nmS s = true) (hn : s ∉ l) (hm : (l.length : Int) < most) (hm2 : l.length < 256) : Ok Tryz.prog 73 #[v0, str s, .int .i64 most] w fun v w' => (∃ p n, v = .tuple #[p, .int .i64 n, .int .i64 0] ∧ NtM w' p (l ++ [s])) ∧ Ext False w w' := by
 obtain ⟨p, a, c, m, rfl, h1, h2, ⟨rfl, rfl⟩ | ⟨g, M, rfl, -, h3, h4⟩⟩ := ht
 ·exact nadd0_ok p a c _ s hs most w h1 h2 hv (by simp at hm; omega)
 ·exact nadd1_ok p a c _ l g M s hs most w h1 h2 h3 h4 hv hn hm hm2
theorem nof_ok (v0 : Value) (G : Nat → Prop) (l : List Str) (most : Int) (w : World) (hl : Rd encS 1 G w v0 l) (hv : ∀ x ∈ l, nmS x = true ∧ x.length ≤ 1000000) (hnd : l.Nodup) (hm : (l.length : Int) ≤ most) (hm2 : l.length ≤ 256) : Ok Tryz.prog 38 #[v0, .int .i64 most] w fun v w' => (∃ p, v = .tuple #[p, .int .i64 0] ∧ NtIs w' p l.length) ∧ Ext False w w' := by
 obtain ⟨al, cl, rfl, hl⟩ := hl
 have hlen := hl.len
 replace hl := hl.mono (F' := fun g => g < w.heap.size) (fun g h1 h2 => h1)
 refine Qz 33 func38 rfl rfl rfl ?_
 have hX := xRf w
 refine Qe (Qc ?_)
 refine Rr Qm ?_
 refine Rr Qm ?_
 refine Qd (Qe (Qc ?_))
 refine Qo rfl (o_call0 call68) (Ok.mono (ntnew_ok _) ?_)
 rintro v12 w1 ⟨hnt12, x2⟩
 have z3 := x2.size
 replace hX := hX.ex x2
 replace hl := hl.ext x2
 refine Rr (Qv (v := v12) rfl) ?_
 refine Qd (Qe (Qe (Qc ?_)))
 skip
 refine Rr (mvS rfl) ?_
 refine Rr (QK underlying96 rfl) ?_
 refine Rr QT ?_
 refine Qd (QB ?_)
 refine Za (α := Nat × Value) [(4, 6), (8, 11), (15, 31)] (fun q => [(15, .int .i64 (q.1 : Int)), (6, q.2)]) (fun q w' => (q.1 ≤ l.length) ∧ Ext False w1 w' ∧ (NtM w' q.2 (l.take q.1))) (fun q => l.length - q.1) (0, v12) ⟨rfl, rfl, trivial⟩ ⟨Nat.zero_le _, Bel.refl _ _, (by rw [List.take_zero]; exact hnt12)⟩ ?_
 rintro ⟨k, t⟩ fb6 w5 ⟨hk, hXL4, hnt⟩
 dsimp only at *
 have z7 := Bel.size hXL4
 replace hX := hX.ex hXL4
 replace hl := hl.ext hXL4
 refine Qe (Qc ?_)
 refine Rr (QQ rfl rfl) ?_
 refine Qd (Qe ?_)
 refine QD rfl (fun hc1 => ?_) (fun hc1 => ?_)
 ·have hk1 : k < l.length := by have := dcT hc1; omega
  refine Qu (Qe (QB (Qe (Qc ?_))))
  refine Rr (Zg underlying96 sizeOf9 hl rfl rfl omg) ?_
  refine Rr (o_ldR isAgg9 hl rfl rfl (getE [] hk1) rfl) ?_
  refine Rr (Qv (v := str _) rfl) ?_
  refine Qd (Qe (Qc ?_))
  refine Rr (Ql (v := t) rfl) ?_
  refine Rr (Ql (v := str _) rfl) ?_
  refine Rr (mvI rfl) ?_
  refine Qo rfl (o_call3 call73 rfl rfl rfl) (Ok.mono (nadd_ok _ (l.take k) (l.getD k []) (hv _ (gm hk1)).2 most _ hnt (hv _ (gm hk1)).1 (nd_take hnd hk1) (by rw [List.length_take]; omega) (by rw [List.length_take]; omega)) ?_)
  rintro _ w8 ⟨⟨p23, n23, rfl, hnt23⟩, x9⟩
  have z10 := x9.size
  replace hX := hX.ex x9
  replace hXL4 := Bel.ex hXL4 x9
  refine Rr (Ql (v := .tuple _) rfl) ?_
  refine Rr (QH rfl rfl) ?_
  refine Rr (QH rfl rfl) ?_
  refine Rr (QH rfl rfl) ?_
  refine Rr (Qv (v := p23) rfl) ?_
  refine Rr (asI rfl) ?_
  refine Rr (asI rfl) ?_
  refine Qd (Qe (Qe (Qc ?_)))
  refine Rr (mvI rfl) ?_
  refine Rr (o_neq rfl rfl) ?_
  refine Qd ?_
  refine Qr rfl ?_
  refine Qu (Qc ?_)
  refine Rr (Ql (v := p23) rfl) ?_
  refine Rr (Qv (v := p23) rfl) ?_
  refine Qd (Qc ?_)
  refine Rr (Q6 rfl rfl omg) ?_
  refine Rr (mvI rfl) ?_
  refine Qd ?_
  refine ⟨(k + 1, p23), ⟨sT, sT, trivial⟩, oT, ⟨?_, hXL4, ?_⟩, ?_⟩
  ·show k + 1 ≤ l.length; omega
  ·show NtM _ _ (l.take (k + 1))
   rw [takeN hk1]; exact hnt23
  ·show l.length - (k + 1) < l.length - k; omega
 have hk1 : ¬ k < l.length := by have := dcF hc1; omega
 refine QS (QL (Qe (Qc ?_)))
 refine Rr (Ql (v := t) rfl) ?_
 refine Rr (Qv (v := t) rfl) ?_
 refine Rr Qm ?_
 refine Qd (Qy ?_)
 refine ⟨_, res_tmp2 rfl rfl rfl, ?_⟩
 rw [List.take_of_length_le (by omega)] at hnt
 exact ⟨⟨_, rfl, hnt.is⟩, hX⟩

