/- Walks: what functions return. -/
import Derived.Test.YtgmpgfokblehdaaGreatDoorWtb2
set_option linter.unusedVariables false
set_option linter.unusedSimpArgs false
set_option linter.unnecessarySimpa false
namespace Go.Proofs.YtgmpgfokblehdaaGreatDoor
open Go Go.Lx Go.RowKit Tryz
set_option maxRecDepth 100000
set_option maxHeartbeats 8000000 in
theorem tfillB_ok (b0 b b1 : Nat) (p p1 : PtV) (s s1 : StV) (tb : TbV) (tq : TbP) (w : World) (hb1 : TbIs w b0 tb tq) (hto : tb.o = pB b1) (hst1 : At w b1 0 (ptC p1)) (hp1 : PsIs w p1 s1) (hst : At w b 0 (ptC p)) (hp : PsIs w p s) (hs : StOk s) (hT : Tb w) (hul : s.us.length = 1) (hsl : s.ss.length ≤ 1) (hlk : p1.lk = p.lk) (hgr : s1.gr = s.gr) (hrs : s1.rs.length = s.rs.length) (hJl : tb.J.length = s.rs.length) (hEl : tb.E.length = 1) (hne : ((tb.E.getD 0 sz).x == onW s.mb ((0 + 1 : Nat) : Int) p.day) = false) (htm : tb.m = s.gr) : Ok Tryz.prog 50 #[pB b0, pB b] w fun v w' => (∃ x n, v = .tuple #[pB x, .int .i64 n] ∧ ∃ t q, TbIs w' x t q ∧ t.o = pB b ∧ t.day = p.day ∧ t.m = s.gr ∧ t.J = tb.J ∧ t.E.map SV.x = (List.range s.us.length).map (fun k => onW s.mb ((k + 1 : Nat) : Int) p.day) ∧ t.M.map SV.x = t.E.map (fun e => clW t.J (memW e.x 64)) ∧ ∃ l, l.map SE.rs = s.ss ∧ OSp t.J t.M l s.ss.length t.O) ∧ Ext False w w' := by
 have hE : Bel False NoB w w := Bel.refl _ _
 obtain ⟨n0, hn0⟩ : ∃ n, n = w.heap.size := ⟨_, rfl⟩
 have hb0 : At w b0 0 (tbL (pB b1) tb.day (.slice tq.ae tb.E.length tq.ce) (.slice tq.am tb.M.length tq.cm) (.slice tq.aj tb.J.length tq.cj) (.map (some tq.mo)) (pB tq.tr) (.slice tq.ag tb.G.length tq.cg)) := by
  have h := hb1.at'
  unfold tbC at h
  rw [hto] at h
  exact h
 have hbl := hst.lt
 have hb0l := hb0.lt
 have hTl := hT.lt
 have hm := hs.m
 have hgl := hs.gr.len
 refine Qv 279 func50 rfl rfl rfl ?_
 have hX := xRf w
 refine Qf (Qb (Rr Qj (Rr Qj (Qc (Qf (Qb (Rr (mvP rfl) (Qo rfl (QD call7 rfl) (Ok.mono (JD b p _ (hst.ext hE) hp.orl) ?_)))))))))
 rintro _ w1 ⟨⟨a19, rfl⟩, x2⟩
 have z3 := x2.size
 replace hX := hX.ex x2
 replace hb0 := hb0.ext x2
 replace hE := Bel.ex hE x2
 refine Zk rfl rfl zeroValue39 rfl sizeOf39 (fun _ => rfl) rfl rfl ?_
 intro b6 w4 x5 hge6 hb6
 have hlt6 := hb6.lt
 have z6 := x5.size
 replace hX := hX.ex x5
 replace hb0 := hb0.ext x5
 replace hE := Bel.ex hE x5
 refine Qc (Qf (Qb (Rr (mvP rfl) (Rr (mvP rfl) (Qo rfl (QD call105 rfl) (Ok.mono (sday_ok b p s _ (hst.ext hE) (hp.ext hE)) ?_))))))
 rintro _ w7 ⟨rfl, x8⟩
 have z9 := x8.size
 replace hX := hX.ex x8
 replace hb0 := hb0.ext x8
 replace hE := Bel.ex hE x8
 replace hb6 := hb6.ext x8
 refine Rg_omk rfl ?_
 intro m23 w10 x11 hge23 hlt23 hm23
 have z12 := x11.size
 replace hX := hX.ex x11
 replace hb0 := hb0.ext x11
 replace hE := Bel.ex hE x11
 replace hb6 := hb6.ext x11
 refine Rr (Q2 (cells := (tbL (pB b) p.day nilS nilS nilS (.map (some m23)) (.pointer none) nilS)) (vs := [(0, .pointer _), (1, .int _ _), (5, .map _)]) rfl (by kernel_rfl)) (QH rfl (QX (v := .agg _) rfl) ?_)
 intro b25 w13 x14 hge25 hb25
 have hlt25 := hb25.lt
 have z15 := x14.size
 replace hX := hX.ex x14
 replace hb0 := hb0.ext x14
 replace hE := Bel.ex hE x14
 replace hb6 := hb6.ext x14
 replace hm23 := hm23.ext x14
 refine Rr (asP rfl) (Qc (Qf (Qb (Rr Qj (Qc (Qf ?_))))))
 obtain ⟨n2, hn2⟩ : ∃ n, n = w13.heap.size := ⟨_, rfl⟩
 apply Q3 (β := False) [peq _, peq _, peq _, peq _, peq _, peq _, peq _, peq _, peq _, peq _, (fun v _ => ∃ a, v = .agg (ptC (ptL p1 a)).toArray), peq _, peq _, peq _, peq _, peq _, peq _] 17 QV (by kernel_rfl) rfl ⟨Qd _, Qd _, Qd _, Qd _, Qd _, Qd _, Qd _, Qd _, Qd _, Qd _, ((fun _ _ _ h _ => h)), Qd _, Qd _, Qd _, Qd _, Qd _, Qd _, trivial⟩ ?ob4 ?fin4
 case ob4 =>
  refine Qg (fun _ _ => Qe (Qn rfl (mvP rfl))) (Qg (fun _ _ => Qa (Qe (Qn rfl (QJ rfl)))) (Qg (fun _ _ => Qa (Qe (Qn rfl (Qy underlying119 rfl sizeOf40 rfl)))) (Qg (fun w25 x26 => ?_) ?_)))
  ·have hb0 := hb0.ext x26
   exact Qa (Qe (Qn rfl (Qm isAgg40 rfl (hb0.get 0 rfl))))
  refine Qg (fun _ _ => Qa (Qe (Qn rfl (o_pne underlying40 rfl rfl)))) (Qg (fun _ _ => Qa (Qe (Qn rfl (mvB rfl)))) (Qg (fun _ _ => Qa (Qe (Q1 5 31 rfl rfl (Qn rfl (mvP rfl))))) (Qg (fun _ _ => Qa (Qa (Qe (Q1 5 31 rfl rfl (Qn rfl (QJ rfl)))))) (Qg (fun _ _ => Qa (Qa (Qe (Q1 5 31 rfl rfl (Qn rfl (Qy underlying119 rfl sizeOf40 rfl)))))) (Qg (fun w43 x44 => ?_) ?_)))))
  ·have hb0 := hb0.ext x44
   exact Qa (Qa (Qe (Q1 5 31 rfl rfl (Qn rfl (Qm isAgg40 rfl (hb0.get 0 rfl))))))
  refine Qg (fun w46 x47 => ?_) ?_
  ·have hE := Bel.ex hE x47
   exact Qa (Qa (Qa (Qe (Q1 5 31 rfl rfl (ZK rfl (QD call7 rfl) ((JD b1 p1 _ (hst1.ext hE) hp1.orl).mono (fun v w2 ⟨⟨a, e⟩, x⟩ => ⟨x, a, e⟩)))))))
  refine Qg (fun w49 x50 => ?_) ?_
  ·refine QQ (fun v36 hv36 => ?_)
   obtain ⟨a36, rfl⟩ := hv36
   exact Qa (Qe (Q1 5 31 rfl rfl (Qn rfl (o_fieldV underlying39 rfl isAgg33 sizeOf33 rfl (congrArg (fun z => some (pB z)) hlk)))))
  refine Qg (fun _ _ => Qa (Qe (Q1 5 31 rfl rfl (Qn rfl (Qy underlying39 rfl sizeOf33 rfl))))) (Qg (fun w55 x56 => ?_) ?_)
  ·have hb6 := hb6.ext x56
   exact Qa (Qa (Qe (Q1 5 31 rfl rfl (Qn rfl (Qm isAgg33 rfl (hb6.at.get 4 rfl))))))
  refine Qg (fun w58 x59 => ?_) ?_
  ·have hE := Bel.ex hE x59
   refine Qa (Qa (QQ (fun v36 hv36 => ?_)))
   obtain ⟨a36, rfl⟩ := hv36
   exact Qa (Qe (Q1 5 31 rfl rfl (Zj rfl (QB call106 rfl rfl) (hyeq_ok (pB p.lk) s.lk _ (hp.ext hE).lk hs.lkl))))
  refine Qg (fun _ _ => Qa (Qa (Qe (Qn rfl (Q7 (v := .bool _) rfl rfl))))) (Qg (fun w64 x65 => ?_) ?_)
  ·refine Qa (Qa (Qa (Qa (Qa (Qa (Qa (Qa (Qa (Qa (Qa (Qa (QQ (fun v36 hv36 => ?_)))))))))))))
   obtain ⟨a36, rfl⟩ := hv36
   exact Qa (Qa (Qa (Qa (Qa (Qe (Qn rfl (asB rfl)))))))
  exact QR
 case fin4 =>
  intro w67 x68
  have z69 := x68.size
  replace hX := hX.ex x68
  replace hb0 := hb0.ext x68
  replace hE := Bel.ex hE x68
  replace hb6 := hb6.ext x68
  replace hm23 := hm23.ext x68
  replace hb25 := hb25.ext x68
  refine Qa (Qa (Qa (Qa (Qa (Qa (Qa (Qa (Qa (Qa (QQ (fun v36 hv36 => ?_)))))))))))
  obtain ⟨a36, rfl⟩ := hv36
  refine Qa (Qa (Qa (Qa (Qa (Qa (Qe (Qc (Qf (Qf (Qb (Rr (mvP rfl) (Qo rfl (QD call107 rfl) (Ok.mono (J0 b p s _ (hst.ext hE) (hp.ext hE)) ?_)))))))))))))
  rintro _ w70 ⟨rfl, x71⟩
  have z72 := x71.size
  replace hX := hX.ex x71
  replace hb0 := hb0.ext x71
  replace hE := Bel.ex hE x71
  replace hb6 := hb6.ext x71
  replace hm23 := hm23.ext x71
  replace hb25 := hb25.ext x71
  refine Rr QP (Qc (Qt ?_))
  refine QU (α := Nat × Value × Nat × Nat) [(8, 8), (10, 10), (44, 89)] (fun q => [(44, .int .i64 (q.1 : Int)), (8, .int .i64 0)]) (fun q w' => (q.1 ≤ s.rs.length ∧ n2 ≤ q.2.2.1) ∧ Bel False (fun g => g = b25 ∨ n2 ≤ g) w70 w' ∧ (Box w' b25 119 (tbL (pB b) p.day nilS nilS q.2.1 (.map (some m23)) (.pointer none) nilS) ∧ Own encSV 1 32 (fun g => q.2.2.1 ≤ g ∧ g < q.2.2.2) w' q.2.1 (tb.J.take q.1) ∧ q.2.2.2 ≤ w'.heap.size)) (fun q => s.rs.length - q.1) (0, nilS, n2, n2) ⟨rfl, rfl, trivial⟩ ⟨⟨Nat.zero_le _, Nat.le_refl _⟩, Bel.refl _ _, ⟨hb25, Own.nil _ _, by show n2 ≤ _; omega⟩⟩ ?_
  rintro ⟨k, t, bt, et⟩ fb75 w74 ⟨⟨hk, hbt⟩, hXL73, ⟨hb25, hownj, het⟩⟩
  dsimp only at *
  have z76 := Bel.size hXL73
  replace hX := Bel.out hX hXL73 om2
  replace hb0 := hb0.keep hXL73 om1
  replace hE := Bel.out hE hXL73 om2
  replace hb6 := hb6.keep hXL73 om1
  replace hm23 := hm23.keep hXL73 om1
  refine Qf (Qb (Rr (QM rfl rfl) (Qc (Qf (Qw rfl (fun hc1 => ?_) (fun hc1 => ?_))))))
  ·have hq_k : k < s.rs.length := by have := dcT hc1; omega
   refine Qp (Qf (Qt (Qf (Qb (Rr (mvI rfl) (Rr (asI rfl) (Qc (Qf (Qf (Qb (Rr (mvB rfl) (Rr (mvB rfl) (QA 1 48 rfl rfl (Rr (mvI rfl) (QA 1 48 rfl rfl (Rr (mvP rfl) (QA 1 48 rfl rfl (Rr (QJ rfl) (QA 1 48 rfl rfl (Rr (Qy underlying119 rfl sizeOf114 rfl) (QA 1 48 rfl rfl (Rr (Qm isAgg114 rfl (hb0.get 4 rfl)) (QA 1 48 rfl rfl (Rr (QC underlying114 rfl) (QA 1 48 rfl rfl (Rr (QM rfl rfl) (Rr (Q7 (v := .bool _) rfl rfl) (Qc (Za (cvB (decide_eq_true (by omega))) (Qf ?_))))))))))))))))))))))))))))))
   obtain ⟨n5, hn5⟩ : ∃ n, n = w74.heap.size := ⟨_, rfl⟩
   apply Zl (β := False) (fun b => if (bt ≤ b ∧ b < et) ∨ n5 ≤ b then 1 else 0) [peqC _, peqC _, peqC _, peqC _, peqC _, peqC _, peqC _, peqC _, peqC _, peqC _, peqC _, peqC _, (fun v w cc => ∃ a, v = .slice a 1 1 ∧ postOwn encSV 1 32 0 [tb.J.getD k sz] v w cc), (postOwn encSV 1 32 1 (tb.J.take k ++ [tb.J.getD k sz]))] [0, 0, 0, 0, 0, 0, 0, 0, 0, 0, 0, 0, 0, 1] 14 QV (by kernel_rfl) (by kernel_rfl) rfl ⟨Qk _ _, Qk _ _, Qk _ _, Qk _ _, Qk _ _, Qk _ _, Qk _ _, Qk _ _, Qk _ _, Qk _ _, Qk _ _, Qk _ _, (ZJ), (Zc), trivial⟩ ?ob9 ?fin9
   case ob9 =>
    refine Ql (fun w77 c79 x78 hc080 hk81 => Qi (Qx rfl (mvP rfl))) (Ql (fun w83 c85 x84 hc086 hk87 => Qi (Qx rfl (mvP rfl))) (Ql (fun w89 c91 x90 hc092 hk93 => Qh (Qi (Qx rfl (QJ rfl)))) (Ql (fun w95 c97 x96 hc098 hk99 => Qh (Qi (Qx rfl (Qy underlying119 rfl sizeOf114 rfl)))) (Ql (fun w101 c103 x102 hc0104 hk105 => ?_) ?_))))
    ·replace x102 := Bel.mono x102 (D' := fun g => (bt ≤ g ∧ g < et) ∨ n5 ≤ g) omC
     have z106 := x102.size
     have hb25 := hb25.keep x102 om1
     exact Qh (Qi (Qx rfl (Qm isAgg114 rfl (hb25.at.get 4 rfl))))
    refine Ql (fun w107 c109 x108 hc0110 hk111 => Qi (Qx rfl (mvP rfl))) (Ql (fun w113 c115 x114 hc0116 hk117 => Qh (Qi (Qx rfl (QJ rfl)))) (Ql (fun w119 c121 x120 hc0122 hk123 => Qh (Qi (Qx rfl (Qy underlying119 rfl sizeOf114 rfl)))) (Ql (fun w125 c127 x126 hc0128 hk129 => ?_) ?_)))
    ·replace x126 := Bel.mono x126 (D' := fun g => (bt ≤ g ∧ g < et) ∨ n5 ≤ g) omC
     have z130 := x126.size
     have hb0 := hb0.keep x126 om1
     exact Qh (Qi (Qx rfl (Qm isAgg114 rfl (hb0.get 4 rfl))))
    refine Ql (fun w131 c133 x132 hc0134 hk135 => Qi (Qx rfl (mvI rfl))) (Ql (fun w137 c139 x138 hc0140 hk141 => ?_) ?_)
    ·replace x138 := Bel.mono x138 (D' := fun g => (bt ≤ g ∧ g < et) ∨ n5 ≤ g) omC
     have z142 := x138.size
     have hE := Bel.out hE x138 om2
     exact Qh (Qh (Qi (Qx rfl (QW underlying114 sizeOf32 ((hb1.j).ext hE) rfl rfl omg))))
    refine Ql (fun w143 c145 x144 hc0146 hk147 => ?_) ?_
    ·replace x144 := Bel.mono x144 (D' := fun g => (bt ≤ g ∧ g < et) ∨ n5 ≤ g) omC
     have z148 := x144.size
     have hE := Bel.out hE x144 om2
     exact Qh (Qi (Qx rfl (QY isAgg32 sizeOf32 ((hb1.j).ext hE) rfl (Ze sz (by omega)))))
    refine Ql (fun w149 c151 x150 hc0152 hk153 => Qh (Qi (Jw (vs := [.agg _]) [tb.J.getD k sz] Q9 Ji rfl rfl ⟨rfl, trivial⟩ rfl rfl rfl rfl))) (Ql (fun w155 c157 x156 hc0158 hk159 => ?_) ?_)
    ·replace x156 := Bel.mono x156 (D' := fun g => (bt ≤ g ∧ g < et) ∨ n5 ≤ g) omC
     refine Qh (Qz (fun v69 hv69 => ?_))
     obtain ⟨a69, rfl, ho69⟩ := hv69
     refine Qi ?_
     exact Jg (by decide) Q9 Ji rfl rfl (((hownj.mono (D' := fun g => (bt ≤ g ∧ g < et) ∧ g < n5) (fun g h1 h2 => ⟨h2, by omega⟩)).ext (Bel.exV x156 (fun b hb hd => hk159 1 (by decide) (by kernel_rfl) b hb (if_pos hd)))).mono (fun g hg h => (hc0158 g (by omega)).trans (if_pos (Or.inl h.1)))) (Own.slA ho69 Q9) rfl (by simp only [List.length_singleton, List.length_take]; omega)
    exact Q8
   case fin9 =>
    intro w161 c163 x162 hc0164
    replace x162 := Bel.mono x162 (D' := fun g => (bt ≤ g ∧ g < et) ∨ n5 ≤ g) omC
    have z165 := x162.size
    replace hXL73 := Bel.out hXL73 x162 om2
    replace hb25 := hb25.keep x162 om1
    refine Qh (Qh (Qh (Qh (Qh (Qh (Qh (Qh (Qh (Qh (Qh (Qh (Qz (fun v69 hv69 => ?_)))))))))))))
    obtain ⟨a69, rfl, ho69⟩ := hv69
    refine Qz (fun v70 hv70 => Qi ?_)
    change Own _ _ _ _ _ _ _ at hv70
    have hown1 := Own.mono hv70 (D' := fun g => c163 g = 1 ∧ ((bt ≤ g ∧ g < et) ∨ n5 ≤ g)) (fun g h1 h2 => ⟨h2, Classical.byContradiction fun hn => by have hlt : g < n5 := Nat.lt_of_not_le (fun hq => hn (Or.inr hq)); have h : _ = (if (bt ≤ g ∧ g < et) ∨ n5 ≤ g then 1 else 0) := hc0164 g (by omega); rw [h2, if_neg hn] at h; cases h⟩)
    obtain ⟨bt2, et2, hiv, het2, hown2, hcz⟩ := ivE hown1 n2 (by omega)
    obtain ⟨a70, c70, hva70, -⟩ := hown2.sl Q9
    subst hva70
    have hownj := hown2
    refine Rr (QJ rfl) (Rr (Qy underlying119 rfl sizeOf114 rfl) (Q6 (v := .slice _ _ _) rfl sizeOf114 rfl rfl hb25 rfl rfl rfl ?_))
    intro w166 c167 hb25
    have z168 := Bel.size c167
    replace hXL73 := Bel.out hXL73 c167 om2
    replace hownj := hownj.keepD c167 om3
    refine Qc (QN (QI (Qb (Rr (QO rfl rfl omg) (Rr (mvI rfl) (Qc ⟨(k + 1, .slice a70 (tb.J.take k ++ [tb.J.getD k sz]).length c70, bt2, et2), ⟨sT, sT, trivial⟩, oT, ⟨?_, hXL73, ?_⟩, ?_⟩))))))
    ·exact ⟨by show k + 1 ≤ s.rs.length; omega, by show n2 ≤ bt2; omega⟩
    ·exact ⟨hb25, by show Own _ _ _ _ _ _ (tb.J.take (k + 1)); rw [take_sv (by omega)]; exact hownj, by show et2 ≤ _; omega⟩
    ·show s.rs.length - (k + 1) < s.rs.length - k; omega
  have hq_k : ¬ k < s.rs.length := by have := dcF hc1; omega
  refine QN (QI (Qf (Qf (Qb ?_))))
  obtain ⟨n8, hn8⟩ : ∃ n, n = w74.heap.size := ⟨_, rfl⟩
  have hkm : k = s.rs.length := by omega
  rw [List.take_of_length_le (by omega)] at hownj
  obtain ⟨J, hJe⟩ : ∃ z, z = tb.J := ⟨_, rfl⟩
  rw [← hJe] at hownj
  obtain ⟨aj, cj, ht, hsj0⟩ := hownj.sl Q9
  subst ht
  have hsj := hsj0.mono (F' := fun g => (g < n0 ∨ n2 ≤ g) ∧ g < n8) (fun g h1 h2 => ⟨Or.inr (by omega), by omega⟩)
  have hwj : WdsAt (fun g => (g < n0 ∨ n2 ≤ g) ∧ g < n8) w74 J := (WdsAt.mono (hJe ▸ hb1.jw) (F' := fun g => (g < n0 ∨ n2 ≤ g) ∧ g < n8) (fun g h1 h2 => ⟨Or.inl (by omega), by omega⟩)).ext hE
  refine Rr (mvP rfl) (Qo rfl (QD call109 rfl) (Ok.mono (susers_ok b p s _ (hst.ext hE) (hp.ext hE)) ?_))
  rintro _ w169 ⟨rfl, x170⟩
  have z171 := x170.size
  replace hX := hX.ex x170
  replace hb0 := hb0.ext x170
  replace hE := Bel.ex hE x170
  replace hb6 := hb6.ext x170
  replace hm23 := hm23.ext x170
  replace hb25 := hb25.ext x170
  replace hsj := hsj.ext x170
  replace hwj := hwj.ext x170
  refine Rr QP (Qc (Qt (QU (α := Nat × Option Addr × Nat × List SV × Option Addr × Nat × List SV) [(8, 8), (11, 12), (92, 160)] (fun q => [(92, .int .i64 (q.1 : Int)), (8, .int .i64 (q.1 : Int))]) (fun q w' => (q.1 ≤ s.us.length ∧ (q.1 = 0 → q.2.1 = none ∧ q.2.2.1 = 0 ∧ q.2.2.2.1 = [] ∧ q.2.2.2.2.1 = none ∧ q.2.2.2.2.2.1 = 0 ∧ q.2.2.2.2.2.2 = []) ∧ q.2.2.2.1.map SV.x = (List.range q.1).map (fun j => onW s.mb ((j + 1 : Nat) : Int) p.day) ∧ q.2.2.2.2.2.2.map SV.x = q.2.2.2.1.map (fun e => clW J (memW e.x 64))) ∧ Bel False (fun g => g = b25 ∨ n8 ≤ g) w169 w' ∧ (Box w' b25 119 (tbL (pB b) p.day (.slice q.2.1 q.2.2.2.1.length q.2.2.1) (.slice q.2.2.2.2.1 q.2.2.2.2.2.2.length q.2.2.2.2.2.1) (.slice aj J.length cj) (.map (some m23)) (.pointer none) nilS) ∧ Sl encSV 1 (fun g => n8 ≤ g) w' q.2.1 q.2.2.1 q.2.2.2.1 ∧ WdsAt (fun g => n8 ≤ g) w' q.2.2.2.1 ∧ Sl encSV 1 (fun g => n8 ≤ g) w' q.2.2.2.2.1 q.2.2.2.2.2.1 q.2.2.2.2.2.2 ∧ WdsAt (fun g => n8 ≤ g) w' q.2.2.2.2.2.2)) (fun q => s.us.length - q.1) (0, none, 0, [], none, 0, []) ⟨rfl, rfl, trivial⟩ ⟨⟨Nat.zero_le _, fun _ => ⟨rfl, rfl, rfl, rfl, rfl, rfl⟩, rfl, rfl⟩, Bel.refl _ _, ⟨hb25, Sl.none, Y8, Sl.none, Y8⟩⟩ ?_)))
  rintro ⟨k1, ae, ce, E, am, cm, M⟩ fb174 w173 ⟨⟨hk1, hz1, hex, hmx⟩, hXL172, ⟨hb25, hse0, hwe, hsm, hwm⟩⟩
  dsimp only at *
  have z175 := Bel.size hXL172
  replace hX := Bel.out hX hXL172 om2
  replace hb0 := hb0.keep hXL172 om1
  replace hE := Bel.out hE hXL172 om2
  replace hb6 := hb6.keep hXL172 om1
  replace hm23 := hm23.keep hXL172 om1
  replace hsj := hsj.keep hXL172 om3
  replace hwj := hwj.keep hXL172 om3
  refine Qf (Qb (Rr (QM rfl rfl) (Qc (Qf (Qw rfl (fun hc3 => ?_) (fun hc3 => ?_))))))
  ·have hq_k1 : k1 < s.us.length := by have := dcT hc3; omega
   obtain rfl : k1 = 0 := by omega
   obtain ⟨rfl, rfl, rfl, rfl, rfl, rfl⟩ := hz1 rfl
   refine Qp (Qf (Qt (Qf (Qb (Rr (mvI rfl) (Rr (asI rfl) (Qc (Qf (Qb (Rr (mvP rfl) (Rr (mvI rfl) (Rr (ZB (p := 0) (b := 1) rfl rfl (by omega)) (Qo rfl (QB call110 rfl rfl) (Ok.mono (sexpl_ok b p s _ (hst.ext hE) (hp.ext hE) hs.mb ((0 + 1 : Nat) : Int) (by omega)) ?_))))))))))))))
   rintro _ w176 ⟨a98, c98, rfl, hq98, x177⟩
   have z178 := x177.size
   replace hXL172 := Bel.ex hXL172 x177
   replace hb0 := hb0.ext x177
   replace hE := Bel.ex hE x177
   replace hsj := hsj.ext x177
   replace hwj := hwj.ext x177
   replace hb25 := hb25.ext x177
   refine Zk rfl rfl zeroValue32 rfl sizeOf32 (fun _ => rfl) rfl rfl ?_
   intro b12 w179 x180 hge12 hb12
   have hlt12 := hb12.lt
   have z181 := x180.size
   replace hXL172 := Bel.ex hXL172 x180
   replace hb0 := hb0.ext x180
   replace hE := Bel.ex hE x180
   replace hsj := hsj.ext x180
   replace hwj := hwj.ext x180
   replace hb25 := hb25.ext x180
   replace hq98 := hq98.ext x180
   refine Qc (Qf ?_)
   obtain ⟨n9, hn9⟩ : ∃ n, n = w179.heap.size := ⟨_, rfl⟩
   apply Zl (β := False) (fun _ => 0) [peqC _, peqC _, peqC _, peqC _, peqC _, peqC _, (fun v w cc => ∃ a, v = .slice a 1 1 ∧ postOwn encSV 1 32 0 [(⟨a98, c98, onW s.mb ((0 + 1 : Nat) : Int) p.day⟩ : SV)] v w cc), (postOwn encSV 1 32 1 ([] ++ [(⟨a98, c98, onW s.mb ((0 + 1 : Nat) : Int) p.day⟩ : SV)]))] [0, 0, 0, 0, 0, 0, 0, 1] 8 QV (by kernel_rfl) (by kernel_rfl) rfl ⟨Qk _ _, Qk _ _, Qk _ _, Qk _ _, Qk _ _, Qk _ _, (ZJ), (Zc), trivial⟩ ?ob17 ?fin17
   case ob17 =>
    refine Ql (fun w182 c184 x183 hc0185 hk186 => Qi (Qx rfl (mvP rfl))) (Ql (fun w188 c190 x189 hc0191 hk192 => Qi (Qx rfl (mvP rfl))) (Ql (fun w194 c196 x195 hc0197 hk198 => Qh (Qi (Qx rfl (QJ rfl)))) (Ql (fun w200 c202 x201 hc0203 hk204 => Qh (Qi (Qx rfl (Qy underlying119 rfl sizeOf114 rfl)))) (Ql (fun w206 c208 x207 hc0209 hk210 => ?_) ?_))))
    ·replace x207 := RelG.ext0 x207
     have hb25 := hb25.ext x207
     exact Qh (Qi (Qx rfl (Qm isAgg114 rfl (hb25.at.get 2 rfl))))
    refine Ql (fun w212 c214 x213 hc0215 hk216 => ?_) ?_
    ·replace x213 := RelG.ext0 x213
     have hb12 := hb12.ext x213
     exact Qi (Qx rfl (QF isAgg32 sizeOf32 rfl hb12.at rfl))
    refine Ql (fun w218 c220 x219 hc0221 hk222 => Qh (Qi (Jw (vs := [.agg _]) [(⟨a98, c98, onW s.mb ((0 + 1 : Nat) : Int) p.day⟩ : SV)] Q9 Ji rfl rfl ⟨rfl, trivial⟩ rfl rfl rfl rfl))) (Ql (fun w224 c226 x225 hc0227 hk228 => ?_) ?_)
    ·refine Qh (Qz (fun v105 hv105 => ?_))
     obtain ⟨a105, rfl, ho105⟩ := hv105
     refine Qi ?_
     exact Jg (by decide) Q9 Ji rfl rfl (Own.nil _ _) (Own.slA ho105 Q9) rfl (by simp only [List.length_singleton, List.length_nil]; omega)
    exact Q8
   case fin17 =>
    intro w230 c232 x231 hc0233
    replace x231 := RelG.ext0 x231
    have z234 := x231.size
    replace hXL172 := Bel.ex hXL172 x231
    replace hb0 := hb0.ext x231
    replace hE := Bel.ex hE x231
    replace hsj := hsj.ext x231
    replace hwj := hwj.ext x231
    replace hb25 := hb25.ext x231
    replace hq98 := hq98.ext x231
    replace hb12 := hb12.ext x231
    refine Qh (Qh (Qh (Qh (Qh (Qh (Qz (fun v105 hv105 => ?_)))))))
    obtain ⟨a105, rfl, ho105⟩ := hv105
    refine Qz (fun v106 hv106 => Qi ?_)
    change Own _ _ _ _ _ _ _ at hv106
    have hown106 := Own.mono hv106 (D' := fun g => n9 ≤ g) (fun g h1 h2 => Nat.le_of_not_lt fun q => by have h := hc0233 g (by omega); rw [h2] at h; simp at h)
    obtain ⟨a106, c106, hva106, hs106⟩ := hown106.sl Q9
    subst hva106
    rw [List.nil_append] at hs106
    refine Rr (QJ rfl) (Rr (Qy underlying119 rfl sizeOf114 rfl) (Q6 (v := .slice _ _ _) rfl sizeOf114 rfl rfl hb25 rfl rfl rfl ?_))
    intro w235 c236 hb25
    have z237 := Bel.size c236
    replace hXL172 := Bel.out hXL172 c236 om2
    replace hb0 := hb0.keep c236 om1
    replace hE := Bel.out hE c236 om2
    replace hsj := hsj.keep c236 om3
    replace hwj := hwj.keep c236 om3
    replace hq98 := hq98.keep c236 om3
    replace hb12 := hb12.keep c236 om1
    replace hs106 := hs106.keep c236 om3
    refine Qc (Qf (Qf ?_))
    apply Q3 (β := False) [peq _, peq _, peq _, peq _, peq _, peq _, peq _, peq _, peq _, peq _, peq _, peq _, peq _, peq _, peq _, peq _, peq _, peq _, peq _, peq _, peq _] 21 QV (by kernel_rfl) rfl ⟨Qd _, Qd _, Qd _, Qd _, Qd _, Qd _, Qd _, Qd _, Qd _, Qd _, Qd _, Qd _, Qd _, Qd _, Qd _, Qd _, Qd _, Qd _, Qd _, Qd _, Qd _, trivial⟩ ?ob18 ?fin18
    case ob18 =>
     refine Qg (fun _ _ => Qe (Qn rfl (mvB rfl))) (Qg (fun _ _ => Qa (Qe (Qn rfl (mvB rfl)))) (Qg (fun _ _ => Qa (Qe (Q1 1 110 rfl rfl (Qn rfl (mvI rfl))))) (Qg (fun _ _ => Qa (Qe (Q1 1 110 rfl rfl (Qn rfl (mvP rfl))))) (Qg (fun _ _ => Qa (Qa (Qe (Q1 1 110 rfl rfl (Qn rfl (QJ rfl)))))) (Qg (fun _ _ => Qa (Qa (Qe (Q1 1 110 rfl rfl (Qn rfl (Qy underlying119 rfl sizeOf114 rfl)))))) (Qg (fun w256 x257 => ?_) ?_))))))
     ·have hb0 := hb0.ext x257
      exact Qa (Qa (Qe (Q1 1 110 rfl rfl (Qn rfl (Qm isAgg114 rfl (hb0.get 2 rfl))))))
     refine Qg (fun _ _ => Qa (Qa (Qe (Q1 1 110 rfl rfl (Qn rfl (QC underlying114 rfl)))))) (Qg (fun _ _ => Qa (Qa (Qa (Qe (Q1 1 110 rfl rfl (Qn rfl (QM rfl rfl))))))) (Qg (fun _ _ => Qa (Qa (Qe (Qn rfl (Q7 (v := .bool _) rfl rfl))))) (Qg (fun _ _ => Qa (Qa (Qe (Qn rfl (mvB rfl))))) (Qg (fun w271 x272 => Qa (Qe (Q1 10 119 rfl (cvB (decide_eq_true (by omega))) (Qn rfl (mvP rfl))))) (Qg (fun w274 x275 => Qa (Qa (Qe (Q1 10 119 rfl (cvB (decide_eq_true (by omega))) (Qn rfl (QJ rfl)))))) (Qg (fun w277 x278 => Qa (Qa (Qe (Q1 10 119 rfl (cvB (decide_eq_true (by omega))) (Qn rfl (Qy underlying119 rfl sizeOf114 rfl)))))) (Qg (fun w280 x281 => ?_) ?_)))))))
     ·have hb0 := hb0.ext x281
      exact Qa (Qa (Qe (Q1 10 119 rfl (cvB (decide_eq_true (by omega))) (Qn rfl (Qm isAgg114 rfl (hb0.get 2 rfl))))))
     refine Qg (fun w283 x284 => Qa (Qe (Q1 10 119 rfl (cvB (decide_eq_true (by omega))) (Qn rfl (mvI rfl))))) (Qg (fun w286 x287 => ?_) ?_)
     ·have hE := Bel.ex hE x287
      exact Qa (Qa (Qa (Qe (Q1 10 119 rfl (cvB (decide_eq_true (by omega))) (Qn rfl (QW underlying114 sizeOf32 ((hb1.e).ext hE) rfl rfl omg))))))
     refine Qg (fun w289 x290 => ?_) ?_
     ·have hE := Bel.ex hE x290
      exact Qa (Qa (Qe (Q1 10 119 rfl (cvB (decide_eq_true (by omega))) (Qn rfl (QY isAgg32 sizeOf32 ((hb1.e).ext hE) rfl (Ze sz (by omega)))))))
     refine Qg (fun w292 x293 => ?_) ?_
     ·have hb12 := hb12.ext x293
      exact Qa (Qe (Q1 10 119 rfl (cvB (decide_eq_true (by omega))) (Qn rfl (QF isAgg32 sizeOf32 rfl hb12.at rfl))))
     refine Qg (fun w295 x296 => ?_) ?_
     ·have hE := Bel.ex hE x296
      have hq98 := hq98.ext x296
      exact Qa (Qa (Qa (Qa (Qe (Q1 10 119 rfl (cvB (decide_eq_true (by omega))) (Zj rfl (QB call16 rfl rfl) (Z5 _ (tb.E.getD 0 sz) _ ((hb1.ew _ (gm (z := sz) (show 0 < tb.E.length by omega))).ext hE) (⟨a98, c98, onW s.mb ((0 + 1 : Nat) : Int) p.day⟩ : SV) _ hq98)))))))
     exact Qg (fun w298 x299 => Qa (Qa (Qe (Qn rfl (Q7 (v := .bool _) (cvB (decide_eq_true (by omega))) rfl))))) QR
    case fin18 =>
     intro w301 x302
     have z303 := x302.size
     replace hXL172 := Bel.ex hXL172 x302
     replace hE := Bel.ex hE x302
     replace hsj := hsj.ext x302
     replace hwj := hwj.ext x302
     replace hb25 := hb25.ext x302
     replace hq98 := hq98.ext x302
     replace hb12 := hb12.ext x302
     replace hs106 := hs106.ext x302
     refine Qa (Qa (Qa (Qa (Qa (Qa (Qa (Qa (Qa (Qa (Qa (Qa (Qa (Qa (Qa (Qa (Qa (Qa (Qa (Qa (Qa (Qe (Qc (Qq (cvB hne) (Qp (Qf ?_)))))))))))))))))))))))))
     obtain ⟨nB, hnB⟩ : ∃ n, n = w301.heap.size := ⟨_, rfl⟩
     apply Zl (β := False) (fun _ => 0) [peqC _, peqC _, peqC _, peqC _, peqC _, peqC _, peqC _, (postW (SvP (fun g => nB ≤ g) (clW J (memW (onW s.mb ((0 + 1 : Nat) : Int) p.day) 64)))), (postB1 (SvE (clW J (memW (onW s.mb ((0 + 1 : Nat) : Int) p.day) 64))) (fun g => nB ≤ g) encSV 1 32), (postA1 (SvE (clW J (memW (onW s.mb ((0 + 1 : Nat) : Int) p.day) 64))) (fun g => nB ≤ g) encSV 1 32 1 [])] [0, 0, 0, 0, 0, 0, 0, 0, 0, 1] 10 QV (by kernel_rfl) (by kernel_rfl) rfl ⟨Qk _ _, Qk _ _, Qk _ _, Qk _ _, Qk _ _, Qk _ _, Qk _ _, (ZA (SvP.keepS _ _)), (Js (SvE.keep _)), (Jt (SvE.keep _)), trivial⟩ ?ob20 ?fin20
     case ob20 =>
      refine Ql (fun w304 c306 x305 hc0307 hk308 => Qi (Qx rfl (mvP rfl))) (Ql (fun w310 c312 x311 hc0313 hk314 => Qi (Qx rfl (mvP rfl))) (Ql (fun w316 c318 x317 hc0319 hk320 => Qh (Qi (Qx rfl (QJ rfl)))) (Ql (fun w322 c324 x323 hc0325 hk326 => Qh (Qi (Qx rfl (Qy underlying119 rfl sizeOf114 rfl)))) (Ql (fun w328 c330 x329 hc0331 hk332 => ?_) ?_))))
      ·replace x329 := RelG.ext0 x329
       have hb25 := hb25.ext x329
       exact Qh (Qi (Qx rfl (Qm isAgg114 rfl (hb25.at.get 3 rfl))))
      refine Ql (fun w334 c336 x335 hc0337 hk338 => Qi (Qx rfl (mvP rfl))) (Ql (fun w340 c342 x341 hc0343 hk344 => ?_) ?_)
      ·replace x341 := RelG.ext0 x341
       have hb12 := hb12.ext x341
       exact Qi (Qx rfl (QF isAgg32 sizeOf32 rfl hb12.at rfl))
      refine Ql (fun w346 c348 x347 hc0349 hk350 => ?_) ?_
      ·replace x347 := RelG.ext0 x347
       have z351 := x347.size
       have hE := Bel.ex hE x347
       have hsj := hsj.ext x347
       have hwj := hwj.ext x347
       have hb25 := hb25.ext x347
       have hq98 := hq98.ext x347
       refine Qh (Qh (Qi ?_))
       exact Yt (S := SvP (fun g => nB ≤ g) (clW J (memW (onW s.mb ((0 + 1 : Nat) : Int) p.day) 64))) rfl (QB call111 rfl rfl) ((Vl b25 _ _ _ _ _ _ _ aj cj _ J (⟨a98, c98, onW s.mb ((0 + 1 : Nat) : Int) p.day⟩ : SV) _ _ hb25.at hsj hwj hq98 (hT.ext hE)).mono (fun v w2 ⟨a, c, h1, h2, x⟩ => ⟨⟨fun g hg => by have := hg.1; omega, a, c, h1, h2⟩, x⟩))
      refine Ql (fun w352 c354 x353 hc0355 hk356 => ?_) ?_
      ·refine Qz (fun v153 hv153 => ?_)
       obtain ⟨F153, hF153, hP153, a153, c153, rfl, hq153⟩ := hv153
       exact Qi ((Jw (vs := [.agg _]) [(⟨a153, c153, clW J (memW (onW s.mb ((0 + 1 : Nat) : Int) p.day) 64)⟩ : SV)] Q9 Ji rfl rfl ⟨rfl, trivial⟩ rfl rfl rfl rfl).mono3 (fun v w' c' hx ⟨a, h1, h2⟩ => ⟨a, _, h1, EZ.step (SvE.keep _) ⟨F153, hF153, hP153, rfl, hq153⟩ hx, h2⟩))
      refine Ql (fun w358 c360 x359 hc0361 hk362 => ?_) ?_
      ·refine Qh (Qz (fun v154 hv154 => ?_))
       obtain ⟨a154, z154, rfl, hz154, ho154⟩ := hv154
       refine Qz (fun v153 hv153 => ?_)
       obtain ⟨F153, hF153, hP153, a153, c153, rfl, hq153⟩ := hv153
       refine Qi ?_
       exact (Jg (by decide) Q9 Ji rfl rfl (Own.nil _ _) (Own.slA ho154 Q9) rfl (by simp only [List.length_singleton, List.length_nil]; omega)).mono3 (fun v w' c' hx h => ⟨z154, EZ.step (SvE.keep _) hz154 hx, h⟩)
      exact Q8
     case fin20 =>
      intro w364 c366 x365 hc0367
      replace x365 := RelG.ext0 x365
      have z368 := x365.size
      replace hXL172 := Bel.ex hXL172 x365
      replace hb25 := hb25.ext x365
      replace hq98 := hq98.ext x365
      replace hs106 := hs106.ext x365
      refine Qh (Qh (Qh (Qh (Qh (Qh (Qh (Qz (fun v153 hv153 => ?_))))))))
      obtain ⟨F153, hF153, hP153, a153, c153, rfl, hq153⟩ := hv153
      refine Qz (fun v154 hv154 => ?_)
      obtain ⟨a154, z154, rfl, hz154, ho154⟩ := hv154
      refine Qz (fun v155 hv155 => Qi ?_)
      obtain ⟨z155, ⟨F155, hF155, hP155, hzx155, hz155⟩, ho155⟩ := hv155
      change Own _ _ _ _ _ _ _ at ho155
      have hown155 := Own.mono ho155 (D' := fun g => nB ≤ g) (fun g h1 h2 => Nat.le_of_not_lt fun q => by have h := hc0367 g (by omega); rw [h2] at h; simp at h)
      obtain ⟨a155, c155, hva155, hs155⟩ := hown155.sl Q9
      subst hva155
      rw [List.nil_append] at hs155
      replace hz155 := hz155.mono (F' := fun g => nB ≤ g) (fun g h1 h2 => hP155 g h2)
      refine Rr (QJ rfl) (Rr (Qy underlying119 rfl sizeOf114 rfl) (Q6 (v := .slice _ _ _) rfl sizeOf114 rfl rfl hb25 rfl rfl rfl ?_))
      intro w369 c370 hb25
      have z371 := Bel.size c370
      replace hXL172 := Bel.out hXL172 c370 om2
      replace hq98 := hq98.keep c370 om3
      replace hs106 := hs106.keep c370 om3
      replace hs155 := hs155.keep c370 om3
      replace hz155 := hz155.keep c370 om3
      refine Qc (Qb (Rr (mvI rfl) (Rr (QO rfl rfl omg) (Rr (asI rfl) (Qc (Qb (Rr (QO rfl rfl omg) (Rr (mvI rfl) (Qc ⟨(1, a106, c106, [(⟨a98, c98, onW s.mb ((0 + 1 : Nat) : Int) p.day⟩ : SV)], a155, c155, [z155]), ⟨sT, sT, trivial⟩, oT, ⟨?_, hXL172, ?_⟩, ?_⟩)))))))))
      ·refine ⟨by show 1 ≤ s.us.length; omega, fun h => by simp at h, rfl, ?_⟩
       show [z155.x] = _
       rw [hzx155]; rfl
      ·exact ⟨hb25, hs106.mono (fun g h1 h2 => by omega), fun z hz => by rw [List.mem_singleton.1 hz]; exact hq98.mono (fun g h1 h2 => by have := h2.1; omega), hs155.mono (fun g h1 h2 => by omega), fun z hz => by rw [List.mem_singleton.1 hz]; exact hz155.mono (fun g h1 h2 => by omega)⟩
      ·show s.us.length - 1 < s.us.length - 0; omega
  have hq_k1 : ¬ k1 < s.us.length := by have := dcF hc3; omega
  refine QN (QI (Qf (Qf (Qb (Rr (Qy underlying39 rfl sizeOf37 rfl) (Rr (Qm isAgg37 rfl (hb6.at.get 9 rfl)) (Qo rfl (QD call112 rfl) (Ok.mono (Vk _ s.ss _ (hp.ext hE).ss hs.ss) ?_))))))))
  rintro v163 w372 ⟨⟨l163, hown163, hses163, hl163⟩, x373⟩
  have z374 := x373.size
  replace hX := hX.ex x373
  replace hb0 := hb0.ext x373
  replace hE := Bel.ex hE x373
  replace hb6 := hb6.ext x373
  replace hm23 := hm23.ext x373
  replace hsj := hsj.ext x373
  replace hwj := hwj.ext x373
  replace hb25 := hb25.ext x373
  replace hse0 := hse0.ext x373
  replace hwe := hwe.ext x373
  replace hsm := hsm.ext x373
  replace hwm := hwm.ext x373
  have hll163 := congrArg List.length hl163
  rw [List.length_map] at hll163
  have hlsl : l163.length = s.ss.length := by rw [← hl163, List.length_map]
  obtain ⟨a163, c163, hv163, hs163⟩ := hown163.sl Zw
  subst hv163
  replace hs163 := hs163.mono (F' := fun g => n8 ≤ g) (fun g h1 h2 => by have := h2.1; omega)
  refine Rr (QC underlying141 rfl) (Rr QP (Qc (Qt (QU (α := Nat × List (Int × RowV)) [(8, 8), (14, 14), (165, 189)] (fun q => [(165, .int .i64 (q.1 : Int)), (8, .int .i64 ((k1 + q.1 : Nat) : Int))]) (fun q w' => (q.1 ≤ l163.length ∧ OSp J M l163 q.1 q.2) ∧ Bel False (fun g => g = m23) w372 w' ∧ (Mp ekI rowE w' m23 q.2 ∧ (∀ r ∈ q.2, Sl encU 1 (fun g => n8 ≤ g) w' r.2.s.a r.2.s.c (wl r.2.s.x)) ∧ SesAt (Lt w'.heap.size) w' l163)) (fun q => l163.length - q.1) (0, []) ⟨rfl, rfl, trivial⟩ ⟨⟨Nat.zero_le _, .inl ⟨rfl, rfl⟩⟩, Bel.refl _ _, ⟨hm23, fun r hr => (by cases hr), hses163⟩⟩ ?_))))
  rintro ⟨k2, O⟩ fb377 w376 ⟨⟨hk2, hosp⟩, hXL375, ⟨hm23, how, hses163⟩⟩
  dsimp only at *
  have z378 := Bel.size hXL375
  replace hX := Bel.out hX hXL375 om2
  replace hb0 := hb0.keep hXL375 om1
  replace hE := Bel.out hE hXL375 om2
  replace hb6 := hb6.keep hXL375 om1
  replace hsj := hsj.keep hXL375 om3
  replace hwj := hwj.keep hXL375 om3
  replace hb25 := hb25.keep hXL375 om1
  replace hse0 := hse0.keep hXL375 om3
  replace hwe := hwe.keep hXL375 om3
  replace hsm := hsm.keep hXL375 om3
  replace hwm := hwm.keep hXL375 om3
  replace hs163 := hs163.keep hXL375 om3
  refine Qf (Qb (Rr (QM rfl rfl) (Qc (Qf (Qw rfl (fun hc5 => ?_) (fun hc5 => ?_))))))
  ·have hk5 : k2 < l163.length := by have := dcT hc5; omega
   obtain rfl : k2 = 0 := by omega
   obtain rfl : O = [] := by
    rcases hosp with ⟨-, h⟩ | ⟨_, h, -⟩
    ·exact h
    ·cases h
   refine Qp (Qf (Qt (Qf (Qb (Rr (QW underlying141 sizeOf145 hs163 rfl rfl omg) (Rr (QY isAgg145 sizeOf145 hs163 rfl (Ze sez hk5)) (Zk rfl rfl zeroValue145 rfl sizeOf145 (fun _ => rfl) rfl rfl ?_)))))))
   intro b14 w379 x380 hge14 hb14
   have hlt14 := hb14.lt
   have z381 := x380.size
   replace hXL375 := Bel.ex hXL375 x380
   replace hE := Bel.ex hE x380
   replace hsj := hsj.ext x380
   replace hwj := hwj.ext x380
   replace hb25 := hb25.ext x380
   replace hsm := hsm.ext x380
   replace hwm := hwm.ext x380
   replace hm23 := hm23.ext x380
   replace hses163 := SesAt.topx hses163 x380
   refine Qc (Qf ?_)
   obtain ⟨nC, hnC⟩ : ∃ n, n = w379.heap.size := ⟨_, rfl⟩
   have hsx : (l163.getD 0 sez).rs ∈ s.ss := by rw [← hl163]; exact List.mem_map_of_mem (gm hk5)
   have hsu : 1 ≤ (l163.getD 0 sez).u ∧ (l163.getD 0 sez).u ≤ 256 := hs.ss.usr _ hsx
   have hse := hses163 _ (gm (z := sez) hk5)
   apply Q3 (β := False) [peq _, peq _, peq _, peq _, peq _, peq _, peq _, peq _, peq _, peq _, peq _, peq _, peq _, peq _, peq _, (postSV (fun _ => True) ((l163.getD 0 sez).x &&& (getV M ((l163.getD 0 sez).u - 1)).x)), (postSV (fun g => nC ≤ g) (clW J (memW ((l163.getD 0 sez).x &&& (getV M ((l163.getD 0 sez).u - 1)).x) 64))), (fun v w => ∃ a c, v = .agg (.int .i64 (l163.getD 0 sez).u :: encSV ⟨a, c, (clW J (memW ((l163.getD 0 sez).x &&& (getV M ((l163.getD 0 sez).u - 1)).x) 64))⟩).toArray ∧ Sl encU 1 (fun g => nC ≤ g) w a c (wl (clW J (memW ((l163.getD 0 sez).x &&& (getV M ((l163.getD 0 sez).u - 1)).x) 64))))] 18 QV (by kernel_rfl) rfl ⟨Qd _, Qd _, Qd _, Qd _, Qd _, Qd _, Qd _, Qd _, Qd _, Qd _, Qd _, Qd _, Qd _, Qd _, Qd _, (Zf _ _), (Zf _ _), ((by rintro v w w2 ⟨a, c, h1, h2⟩ x; exact ⟨a, c, h1, h2.ext x⟩)), trivial⟩ ?ob26 ?fin26
   case ob26 =>
    refine Qg (fun _ _ => Qe (Qn rfl (mvP rfl))) (Qg (fun _ _ => Qa (Qe (Qn rfl (QJ rfl)))) (Qg (fun _ _ => Qa (Qe (Qn rfl (Qy underlying119 rfl sizeOf115 rfl)))) (Qg (fun w391 x392 => ?_) ?_)))
    ·have hb25 := hb25.ext x392
     exact Qa (Qe (Qn rfl (Qm isAgg115 rfl (hb25.at.get 5 rfl))))
    refine Qg (fun _ _ => Qe (Qn rfl (Qy underlying145 rfl sizeOf3 rfl))) (Qg (fun w397 x398 => ?_) ?_)
    ·have hb14 := hb14.ext x398
     exact Qa (Qe (Qn rfl (Qm isAgg3 rfl (hb14.at.get 0 rfl))))
    refine Qg (fun _ _ => Qe (Qn rfl (Qy underlying145 rfl sizeOf3 rfl))) (Qg (fun w403 x404 => ?_) ?_)
    ·have hb14 := hb14.ext x404
     exact Qa (Qe (Qn rfl (Qm isAgg3 rfl (hb14.at.get 1 rfl))))
    refine Qg (fun _ _ => Qe (Qn rfl (mvP rfl))) (Qg (fun _ _ => Qe (Qn rfl (Qy underlying145 rfl sizeOf32 rfl))) (Qg (fun w412 x413 => ?_) ?_))
    ·have hb14 := hb14.ext x413
     exact Qa (Qe (Qn rfl (QF isAgg32 sizeOf32 rfl (hb14.at.sub 2 1) rfl)))
    refine Qg (fun _ _ => Qe (Qn rfl (mvP rfl))) (Qg (fun _ _ => Qe (Qn rfl (Qy underlying145 rfl sizeOf3 rfl))) (Qg (fun w421 x422 => ?_) ?_))
    ·have hb14 := hb14.ext x422
     exact Qa (Qe (Qn rfl (Qm isAgg3 rfl (hb14.at.get 1 rfl))))
    refine Qg (fun w424 x425 => ?_) ?_
    ·have hb25 := hb25.ext x425
     have hsm := hsm.ext x425
     refine Qa (Qa (Qe ?_))
     exact Zj rfl (QB call24 rfl rfl) (JO b25 _ _ nilS _ _ _ _ _ am cm _ M (l163.getD 0 sez).u (by unfold I64; omega) _ hb25.at hsm)
    refine Qg (fun w427 x428 => ?_) ?_
    ·have hwm := hwm.ext x428
     have hse := hse.ext x428
     exact Qa (Qa (Qa (Qe (ZK rfl (QB call113 rfl rfl) ((band_ok _ ⟨(l163.getD 0 sez).a, (l163.getD 0 sez).c, (l163.getD 0 sez).x⟩ _ hse (getV M ((l163.getD 0 sez).u - 1)) _ (Jx hwm _)).mono (fun v w2 ⟨a, c, e, h, x⟩ => ⟨x, a, c, e, h.mono (fun g h1 h2 => by trivial)⟩))))))
    refine Qg (fun w430 x431 => ?_) ?_
    ·have z432 := x431.size
     have hE := Bel.ex hE x431
     have hsj := hsj.ext x431
     have hwj := hwj.ext x431
     have hb25 := hb25.ext x431
     refine Qa (QQ (fun v184 hv184 => ?_))
     obtain ⟨a184, c184, rfl, hq184⟩ := hv184
     refine QQ (fun v184 hv184 => ?_)
     obtain ⟨a184, c184, rfl, hq184⟩ := hv184
     refine Qe ?_
     exact ZK rfl (QB call111 rfl rfl) ((Vl b25 _ _ _ _ _ _ _ aj cj _ J ⟨a184, c184, ((l163.getD 0 sez).x &&& (getV M ((l163.getD 0 sez).u - 1)).x)⟩ _ _ hb25.at hsj hwj hq184 (hT.ext hE)).mono (fun v w2 ⟨a, c, e, h, x⟩ => ⟨x, a, c, e, h.mono (fun g h1 h2 => by have := h2.1; omega)⟩))
    refine Qg (fun w433 x434 => ?_) ?_
    ·refine Qa (QQ (fun v185 hv185 => ?_))
     obtain ⟨a185, c185, rfl, hq185⟩ := hv185
     exact Qe (OpS_vp rfl (Q2 (cells := (.int .i64 (l163.getD 0 sez).u :: encSV ⟨a185, c185, (clW J (memW ((l163.getD 0 sez).x &&& (getV M ((l163.getD 0 sez).u - 1)).x) 64))⟩)) (vs := [(0, .int _ _), (1, .agg _)]) rfl (by kernel_rfl)) (⟨_, _, rfl, hq185⟩))
    exact QR
   case fin26 =>
    intro w436 x437
    have z438 := x437.size
    replace hXL375 := Bel.ex hXL375 x437
    replace hm23 := hm23.ext x437
    replace hses163 := SesAt.topx hses163 x437
    refine Qa (Qa (Qa (Qa (Qa (Qa (Qa (Qa (Qa (Qa (Qa (Qa (Qa (Qa (Qa (QQ (fun v184 hv184 => ?_))))))))))))))))
    obtain ⟨a184, c184, rfl, hq184⟩ := hv184
    refine QQ (fun v185 hv185 => ?_)
    obtain ⟨a185, c185, rfl, hq185⟩ := hv185
    refine QQ (fun v186 hv186 => ?_)
    obtain ⟨a186, c186, rfl, hq186⟩ := hv186
    refine Qe ?_
    have hm230 := hm23
    have hMp0 := hm23
    refine Rg_oput rfl underlying115 underlying3 rfl rfl rfl hm23 ?_
    intro w439 x440 hm23
    have z441 := x440.size
    replace hXL375 := Bel.out hXL375 x440 om2
    replace hses163 := (fun z hz => ((Sl_ne (by decide) (hses163 z hz) hMp0).keep x440 (fun _ _ h => h.2)).top)
    replace hq186 := hq186.keep x440 om3
    refine Qc (Qb (Rr (mvI rfl) (Rr (QO rfl rfl omg) (Rr (asI rfl) (Qc (Qb (Rr (QO rfl rfl omg) (Rr (mvI rfl) (Qc ⟨(1, [((l163.getD 0 sez).n, ⟨(l163.getD 0 sez).u, ⟨a186, c186, (clW J (memW ((l163.getD 0 sez).x &&& (getV M ((l163.getD 0 sez).u - 1)).x) 64))⟩⟩)]), ⟨sT, sT, trivial⟩, oT, ⟨?_, hXL375, ?_⟩, ?_⟩)))))))))
    ·exact ⟨by show 1 ≤ l163.length; omega, .inr ⟨_, rfl, rfl, rfl⟩⟩
    ·exact ⟨hm23, fun r hr => by rw [List.mem_singleton.1 hr]; exact hq186.mono (fun g h1 h2 => by omega), hses163⟩
    ·show l163.length - 1 < l163.length - 0; omega
  have hk5 : ¬ k2 < l163.length := by have := dcF hc5; omega
  refine QN (QI (Qf (Qf ?_)))
  apply Q3 (β := False) [peq _, peq _, peq _, peq _, peq _, peq _, peq _, peq _, peq _, peq _, (fun v _ => ∃ a, v = .agg (ptC (ptL p1 a)).toArray), peq _, peq _, peq _, peq _, peq _, peq _, peq _, peq _, peq _, peq _, peq _, peq _, peq _, peq _, peq _] 26 QV (by kernel_rfl) rfl ⟨Qd _, Qd _, Qd _, Qd _, Qd _, Qd _, Qd _, Qd _, Qd _, Qd _, ((fun _ _ _ h _ => h)), Qd _, Qd _, Qd _, Qd _, Qd _, Qd _, Qd _, Qd _, Qd _, Qd _, Qd _, Qd _, Qd _, Qd _, Qd _, trivial⟩ ?ob29 ?fin29
  case ob29 =>
   refine Qg (fun _ _ => Qe (Qn rfl (mvP rfl))) (Qg (fun _ _ => Qa (Qe (Qn rfl (QJ rfl)))) (Qg (fun _ _ => Qa (Qe (Qn rfl (Qy underlying119 rfl sizeOf40 rfl)))) (Qg (fun w451 x452 => ?_) ?_)))
   ·have hb0 := hb0.ext x452
    exact Qa (Qe (Qn rfl (Qm isAgg40 rfl (hb0.get 0 rfl))))
   refine Qg (fun _ _ => Qa (Qe (Qn rfl (o_pne underlying40 rfl rfl)))) (Qg (fun _ _ => Qa (Qe (Qn rfl (mvB rfl)))) (Qg (fun _ _ => Qa (Qe (Q1 5 195 rfl rfl (Qn rfl (mvP rfl))))) (Qg (fun _ _ => Qa (Qa (Qe (Q1 5 195 rfl rfl (Qn rfl (QJ rfl)))))) (Qg (fun _ _ => Qa (Qa (Qe (Q1 5 195 rfl rfl (Qn rfl (Qy underlying119 rfl sizeOf40 rfl)))))) (Qg (fun w469 x470 => ?_) ?_)))))
   ·have hb0 := hb0.ext x470
    exact Qa (Qa (Qe (Q1 5 195 rfl rfl (Qn rfl (Qm isAgg40 rfl (hb0.get 0 rfl))))))
   refine Qg (fun w472 x473 => ?_) ?_
   ·have hE := Bel.ex hE x473
    exact Qa (Qa (Qa (Qe (Q1 5 195 rfl rfl (ZK rfl (QD call7 rfl) ((JD b1 p1 _ (hst1.ext hE) hp1.orl).mono (fun v w2 ⟨⟨a, e⟩, x⟩ => ⟨x, a, e⟩)))))))
   refine Qg (fun w475 x476 => ?_) ?_
   ·refine QQ (fun v200 hv200 => ?_)
    obtain ⟨a200, rfl⟩ := hv200
    exact Qa (Qe (Q1 5 195 rfl rfl (Qn rfl (o_fieldV underlying39 rfl isAgg25 sizeOf25 rfl (show _ = some (pB p1.gr) from rfl)))))
   refine Qg (fun _ _ => Qa (Qe (Q1 5 195 rfl rfl (Qn rfl (Qy underlying39 rfl sizeOf25 rfl))))) (Qg (fun w481 x482 => ?_) ?_)
   ·have hb6 := hb6.ext x482
    exact Qa (Qa (Qe (Q1 5 195 rfl rfl (Qn rfl (Qm isAgg25 rfl (hb6.at.get 6 rfl))))))
   refine Qg (fun w484 x485 => ?_) ?_
   ·have hE := Bel.ex hE x485
    refine Qa (Qa (QQ (fun v200 hv200 => ?_)))
    obtain ⟨a200, rfl⟩ := hv200
    exact Qa (Qe (Q1 5 195 rfl rfl (Zj rfl (QB call114 rfl rfl) (geq_ok (pB p1.gr) (pB p.gr) s1.gr s.gr _ (hp1.ext hE).gr (hp.ext hE).gr))))
   refine Qg (fun _ _ => Qa (Qa (Qe (Qn rfl (Q7 (v := .bool _) rfl rfl))))) (Qg (fun _ _ => Qa (Qa (Qe (Qn rfl (mvB rfl))))) (Qg (fun w493 x494 => ?_) ?_))
   ·refine Qa (Qe ?_)
    refine Q1 16 206 rfl (cvB (by rw [hgr]; exact beq_self_eq_true _)) ?_
    exact Qn rfl (mvP rfl)
   refine Qg (fun w496 x497 => ?_) ?_
   ·have hE := Bel.ex hE x497
    refine Qa (Qa (Qa (Qe ?_)))
    refine Q1 16 206 rfl (cvB (by rw [hgr]; exact beq_self_eq_true _)) ?_
    exact Zj rfl (QD call107 rfl) (J0 b p s _ (hst.ext hE) (hp.ext hE))
   refine Qg (fun w499 x500 => ?_) ?_
   ·refine Qa (Qe ?_)
    refine Q1 16 206 rfl (cvB (by rw [hgr]; exact beq_self_eq_true _)) ?_
    exact Qn rfl (mvP rfl)
   refine Qg (fun w502 x503 => ?_) ?_
   ·refine Qa (Qa (Qe ?_))
    refine Q1 16 206 rfl (cvB (by rw [hgr]; exact beq_self_eq_true _)) ?_
    exact Qn rfl (QJ rfl)
   refine Qg (fun w505 x506 => ?_) ?_
   ·refine Qa (Qa (Qe ?_))
    refine Q1 16 206 rfl (cvB (by rw [hgr]; exact beq_self_eq_true _)) ?_
    exact Qn rfl (Qy underlying119 rfl sizeOf40 rfl)
   refine Qg (fun w508 x509 => ?_) ?_
   ·have hb0 := hb0.ext x509
    refine Qa (Qa (Qe ?_))
    refine Q1 16 206 rfl (cvB (by rw [hgr]; exact beq_self_eq_true _)) ?_
    exact Qn rfl (Qm isAgg40 rfl (hb0.get 0 rfl))
   refine Qg (fun w511 x512 => ?_) ?_
   ·have hE := Bel.ex hE x512
    refine Qa (Qa (Qa (Qe ?_)))
    refine Q1 16 206 rfl (cvB (by rw [hgr]; exact beq_self_eq_true _)) ?_
    exact Zj rfl (QD call107 rfl) (J0 b1 p1 s1 _ (hst1.ext hE) (hp1.ext hE))
   refine Qg (fun w514 x515 => ?_) ?_
   ·refine Qa (Qa (Qa (Qe ?_)))
    refine Q1 16 206 rfl (cvB (by rw [hgr]; exact beq_self_eq_true _)) ?_
    exact Qn rfl (Zu rfl rfl)
   refine Qg (fun w517 x518 => ?_) ?_
   ·refine Qa (Qa (Qe ?_))
    exact Qn rfl (Q7 (v := .bool _) (cvB (by rw [hgr]; exact beq_self_eq_true _)) rfl)
   exact QR
  case fin29 =>
   intro w520 x521
   have z522 := x521.size
   replace hX := hX.ex x521
   replace hb0 := hb0.ext x521
   replace hE := Bel.ex hE x521
   replace hsj := hsj.ext x521
   replace hwj := hwj.ext x521
   replace hb25 := hb25.ext x521
   replace hse0 := hse0.ext x521
   replace hwe := hwe.ext x521
   replace hsm := hsm.ext x521
   replace hwm := hwm.ext x521
   replace hm23 := hm23.ext x521
   replace how := (fun r hr => (how r hr).ext x521)
   refine Qa (Qa (Qa (Qa (Qa (Qa (Qa (Qa (Qa (Qa (QQ (fun v200 hv200 => ?_)))))))))))
   obtain ⟨a200, rfl⟩ := hv200
   refine Qa (Qa (Qa (Qa (Qa (Qa (Qa (Qa (Qa (Qa (Qa (Qa (Qa (Qa (Qa (Qe (Qc ?_))))))))))))))))
   refine Za (cvB (by rw [hrs]; exact beq_self_eq_true _)) ?_
   refine Qf ?_
   apply Zl (β := False) (fun b => if b = b25 then 1 else 0) [peqC _, peqC _, peqC _, peqC _, peqC _, peqC _, peqC _, peqC _, peqC _, peqC _, peqC _, peqC _, (postAt b25 1 119 (tbL (pB b) p.day (.slice ae E.length ce) (.slice am M.length cm) (.slice aj J.length cj) (.map (some m23)) (pB tq.tr) nilS))] [0, 0, 0, 0, 0, 0, 0, 0, 0, 0, 0, 0, 1] 13 QV (by kernel_rfl) (by kernel_rfl) rfl ⟨Qk _ _, Qk _ _, Qk _ _, Qk _ _, Qk _ _, Qk _ _, Qk _ _, Qk _ _, Qk _ _, Qk _ _, Qk _ _, Qk _ _, (JS), trivial⟩ ?ob30 ?fin30
   case ob30 =>
    refine Ql (fun w523 c525 x524 hc0526 hk527 => Qi (Qx rfl (mvP rfl))) (Ql (fun w529 c531 x530 hc0532 hk533 => Qi (Qx rfl (mvP rfl))) (Ql (fun w535 c537 x536 hc0538 hk539 => Qi (Qx rfl (mvP rfl))) (Ql (fun w541 c543 x542 hc0544 hk545 => Qh (Qi (Qx rfl (QJ rfl)))) (Ql (fun w547 c549 x548 hc0550 hk551 => Qh (Qi (Qx rfl (Qy underlying119 rfl sizeOf116 rfl)))) (Ql (fun w553 c555 x554 hc0556 hk557 => ?_) ?_)))))
    ·replace x554 := Bel.mono x554 (D' := fun g => g = b25) omC
     have z558 := x554.size
     have hb0 := hb0.keep x554 om1
     exact Qh (Qi (Qx rfl (Qm isAgg116 rfl (hb0.get 6 rfl))))
    refine Ql (fun w559 c561 x560 hc0562 hk563 => Qi (Qx rfl (mvP rfl))) (Ql (fun w565 c567 x566 hc0568 hk569 => Qh (Qi (Qx rfl (QJ rfl)))) (Ql (fun w571 c573 x572 hc0574 hk575 => Qh (Qi (Qx rfl (Qy underlying119 rfl sizeOf117 rfl)))) (Ql (fun w577 c579 x578 hc0580 hk581 => ?_) ?_)))
    ·replace x578 := Bel.mono x578 (D' := fun g => g = b25) omC
     have z582 := x578.size
     have hb0 := hb0.keep x578 om1
     exact Qh (Qi (Qx rfl (Qm isAgg117 rfl (hb0.get 7 rfl))))
    refine Ql (fun w583 c585 x584 hc0586 hk587 => Qh (Qh (Qh (Qh (Qh (Qh (Qh (Qi (Qx rfl (QJ rfl)))))))))) (Ql (fun w589 c591 x590 hc0592 hk593 => Qh (Qh (Qh (Qh (Qh (Qh (Qh (Qi (Qx rfl (Qy underlying119 rfl sizeOf116 rfl)))))))))) (Ql (fun w595 c597 x596 hc0598 hk599 => ?_) ?_))
    ·refine Qh (Qh (Qh (Qh (Qh (Qh (Qh (Qh (Qi ?_))))))))
     exact OpC_store (kc := 1) (off := 6) (v := .pointer _) (by decide) sizeOf116 rfl rfl (hb25.blk (hk599 1 (by decide) (by kernel_rfl) _ hb25.lt (by first | (simp [colAt]; done) | (simp [colAt]; omega)))) ((hc0598 b25 hb25.lt).trans (by first | (simp [colAt]; done) | (simp [colAt]; omega))) rfl rfl rfl
    exact Q8
   case fin30 =>
    intro w601 c603 x602 hc0604
    replace x602 := Bel.mono x602 (D' := fun g => g = b25) omC
    replace hX := Bel.out hX x602 om2
    replace hE := Bel.out hE x602 om2
    replace hsj := hsj.keep x602 om3
    replace hwj := hwj.keep x602 om3
    replace hse0 := hse0.keep x602 om3
    replace hwe := hwe.keep x602 om3
    replace hsm := hsm.keep x602 om3
    replace hwm := hwm.keep x602 om3
    replace hm23 := hm23.keep x602 om1
    replace how := (fun r hr => (how r hr).keep x602 om3)
    refine Qh (Qh (Qh (Qh (Qh (Qh (Qh (Qh (Qh (Qh (Qh (Qh (JG rfl (fun hst12 => Qi ?_)))))))))))))
    have hb25 := hst12.1
    refine Rr (QJ rfl) (Rr (Qy underlying119 rfl sizeOf117 rfl) (Q6 (v := .slice _ _ _) rfl sizeOf117 rfl rfl hb25 rfl rfl rfl ?_))
    intro w606 c607 hb25
    replace hX := Bel.out hX c607 om2
    replace hE := Bel.out hE c607 om2
    replace hsj := hsj.keep c607 om3
    replace hwj := hwj.keep c607 om3
    replace hse0 := hse0.keep c607 om3
    replace hwe := hwe.keep c607 om3
    replace hsm := hsm.keep c607 om3
    replace hwm := hwm.keep c607 om3
    replace hm23 := hm23.keep c607 om1
    replace how := (fun r hr => (how r hr).keep c607 om3)
    refine Qc (Qf (Qb (Rr (mvP rfl) (Rr (mvI rfl) (Rr (asP rfl) (Rr (asI rfl) (Qc (Qu ⟨_, QT rfl rfl rfl, ?_⟩))))))))
    have hk1e : k1 = s.us.length := by omega
    have hk2e : k2 = s.ss.length := by omega
    rw [hk1e] at hex
    rw [hk2e] at hosp
    exact ⟨⟨b25, _, rfl, ⟨pB b, p.day, J, E, M, O, tb.m, tb.G⟩, ⟨ae, ce, am, cm, aj, cj, m23, tq.tr, tq.ag, tq.cg⟩, ⟨hb25.at, hse0.top, WdsAt.top hwe, hsm.top, WdsAt.top hwm, hsj.top, WdsAt.top hwj, ⟨hm23, fun r hr => (how r hr).top⟩, (hb1.ext hE).tr, (hb1.ext hE).g, (hb1.ext hE).gw⟩, rfl, rfl, htm, hJe, hex, hmx, l163, hl163, hosp⟩, hX⟩
