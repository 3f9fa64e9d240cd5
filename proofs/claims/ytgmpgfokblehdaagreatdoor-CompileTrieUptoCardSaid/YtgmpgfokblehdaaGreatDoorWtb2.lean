/- Walks: what functions return. -/
import Derived.Test.YtgmpgfokblehdaaGreatDoorWtb1
set_option linter.unusedVariables false
set_option linter.unusedSimpArgs false
set_option linter.unnecessarySimpa false
namespace Go.Proofs.YtgmpgfokblehdaaGreatDoor
open Go Go.Lx Go.RowKit Tryz
set_option maxRecDepth 100000
theorem el_ps : ElT Tryz.prog 117 158 1 24 (.slice none 0 0) := ⟨underlying117, ⟨Tryz.t158, by kernel_rfl, rfl, rfl, rfl⟩, rfl, by decide, by decide⟩
set_option maxHeartbeats 8000000 in
theorem tfill_ok (b0 b po : Nat) (p : PtV) (s : StV) (od : OV) (w : World) (hb0 : At w b0 0 (tbL (.pointer none) 0 nilS nilS nilS (.map none) (.pointer none) nilS)) (hst : At w b 0 (ptC p)) (hp : PsIs w p s) (hs : StOk s) (hha : At w p.lk 0 [.pointer (some ⟨po, 0, none⟩)]) (ho0 : OdAt (Lt w.heap.size) w po od) (hT : Tb w) (hul : s.us.length ≤ 1) (hsl : s.ss.length ≤ 1) : Ok Tryz.prog 50 #[pB b0, pB b] w fun v w' => (∃ x n, v = .tuple #[pB x, .int .i64 n] ∧ ∃ t q, TbIs w' x t q ∧ t.o = pB b ∧ t.day = p.day ∧ t.m = s.gr ∧ t.J.map SV.x = (List.range s.rs.length).map (fun k => junO od ((k + 1 : Nat) : Int)) ∧ t.E.map SV.x = (List.range s.us.length).map (fun k => onW s.mb ((k + 1 : Nat) : Int) p.day) ∧ t.M.map SV.x = t.E.map (fun e => clW t.J (memW e.x 64)) ∧ ∃ l, l.map SE.rs = s.ss ∧ OSp t.J t.M l s.ss.length t.O) ∧ Ext False w w' := by
 have hE : Bel False NoB w w := Bel.refl _ _
 obtain ⟨n0, hn0⟩ : ∃ n, n = w.heap.size := ⟨_, rfl⟩
 have ho : OdAt (fun g => g < n0) w po od := hn0 ▸ ho0
 have hbl := hst.lt
 have hb0l := hb0.lt
 have hTl := hT.lt
 have hm := hs.m
 have hgl := hs.gr.len
 refine Qv 279 func50 rfl rfl rfl ?_
 have hX := xRf w
 refine Qf (Qb (Rr Qj (Rr Qj (Qc (Qf (Qb (Rr (mvP rfl) (Qo rfl (QD call7 rfl) (Ok.mono (JD b p _ (hst.ext hE) hp.orl) ?_)))))))))
 rintro _ w1 ⟨⟨a19, rfl⟩, x2⟩
 have z3 := x2.size
 replace hX := hX.ex x2
 replace hb0 := hb0.ext x2
 replace hE := Bel.ex hE x2
 refine Zk rfl rfl zeroValue39 rfl sizeOf39 (fun _ => rfl) rfl rfl ?_
 intro b6 w4 x5 hge6 hb6
 have hlt6 := hb6.lt
 change Box _ _ _ (id _) at hb6
 have z6 := x5.size
 replace hX := hX.ex x5
 replace hb0 := hb0.ext x5
 replace hE := Bel.ex hE x5
 refine Qc (Qf (Qb (Rr (mvP rfl) (Rr (mvP rfl) (Qo rfl (QD call105 rfl) (Ok.mono (sday_ok b p s _ (hst.ext hE) (hp.ext hE)) ?_))))))
 rintro _ w7 ⟨rfl, x8⟩
 have z9 := x8.size
 replace hX := hX.ex x8
 replace hb0 := hb0.ext x8
 replace hE := Bel.ex hE x8
 replace hb6 := hb6.ext x8
 refine Rg_omk rfl ?_
 intro m23 w10 x11 hge23 hlt23 hm23
 have z12 := x11.size
 replace hX := hX.ex x11
 replace hb0 := hb0.ext x11
 replace hE := Bel.ex hE x11
 replace hb6 := hb6.ext x11
 refine Rr (Q2 (cells := (tbL (pB b) p.day nilS nilS nilS (.map (some m23)) (.pointer none) nilS)) (vs := [(0, .pointer _), (1, .int _ _), (5, .map _)]) rfl (by kernel_rfl)) (QH rfl (QX (v := .agg _) rfl) ?_)
 intro b25 w13 x14 hge25 hb25
 have hlt25 := hb25.lt
 change Box _ _ _ (id _) at hb25
 have z15 := x14.size
 replace hX := hX.ex x14
 replace hb0 := hb0.ext x14
 replace hE := Bel.ex hE x14
 replace hb6 := hb6.ext x14
 replace hm23 := hm23.ext x14
 refine Rr (asP rfl) (Qc (Qf (Qb (Rr Qj (Qc (Qf ?_))))))
 obtain ⟨n2, hn2⟩ : ∃ n, n = w13.heap.size := ⟨_, rfl⟩
 apply Q3 (β := False) [peq _, peq _, peq _, peq _, peq _, peq _, peq _, peq _, peq _, peq _, peq _, peq _, peq _, peq _, peq _, peq _, peq _] 17 QV (by kernel_rfl) rfl ⟨Qd _, Qd _, Qd _, Qd _, Qd _, Qd _, Qd _, Qd _, Qd _, Qd _, Qd _, Qd _, Qd _, Qd _, Qd _, Qd _, Qd _, trivial⟩ ?ob4 ?fin4
 case ob4 =>
  refine Qg (fun _ _ => Qe (Qn rfl (mvP rfl))) (Qg (fun _ _ => Qa (Qe (Qn rfl (QJ rfl)))) (Qg (fun _ _ => Qa (Qe (Qn rfl (Qy underlying119 rfl sizeOf40 rfl)))) (Qg (fun w25 x26 => ?_) ?_)))
  ·have hb0 := hb0.ext x26
   exact Qa (Qe (Qn rfl (Qm isAgg40 rfl (hb0.get 0 rfl))))
  exact Qg (fun _ _ => Qa (Qe (Qn rfl (o_pne underlying40 rfl rfl)))) (Qg (fun _ _ => Qa (Qe (Qn rfl (mvB rfl)))) (Qg (fun _ _ => Qa (Qe (Zd 5 31 rfl rfl rfl))) (Qg (fun _ _ => Qa (Qa (Qe (Zd 5 31 rfl rfl rfl)))) (Qg (fun _ _ => Qa (Qa (Qe (Zd 5 31 rfl rfl rfl)))) (Qg (fun _ _ => Qa (Qa (Qe (Zd 5 31 rfl rfl rfl)))) (Qg (fun _ _ => Qa (Qa (Qa (Qe (Zd 5 31 rfl rfl rfl))))) (Qg (fun _ _ => Qa (Qa (Qe (Zd 5 31 rfl rfl rfl)))) (Qg (fun _ _ => Qa (Qe (Zd 5 31 rfl rfl rfl))) (Qg (fun _ _ => Qa (Qa (Qe (Zd 5 31 rfl rfl rfl)))) (Qg (fun _ _ => Qa (Qa (Qa (Qa (Qe (Zd 5 31 rfl rfl rfl)))))) (Qg (fun _ _ => Qa (Qa (Qe (Qn rfl (Q0 (v := .bool _) rfl rfl))))) (Qg (fun _ _ => Qa (Qa (Qa (Qa (Qa (Qa (Qa (Qa (Qa (Qa (Qa (Qa (Qa (Qa (Qa (Qa (Qa (Qa (Qe (Qn rfl (asB rfl))))))))))))))))))))) QR))))))))))))
 case fin4 =>
  intro w67 x68
  have z69 := x68.size
  replace hX := hX.ex x68
  replace hb0 := hb0.ext x68
  replace hE := Bel.ex hE x68
  replace hb6 := hb6.ext x68
  replace hm23 := hm23.ext x68
  replace hb25 := hb25.ext x68
  refine Qa (Qa (Qa (Qa (Qa (Qa (Qa (Qa (Qa (Qa (Qa (Qa (Qa (Qa (Qa (Qa (Qa (Qe (Qc (Qf (Qf (Qb (Rr (mvP rfl) (Qo rfl (QD call107 rfl) (Ok.mono (J0 b p s _ (hst.ext hE) (hp.ext hE)) ?_))))))))))))))))))))))))
  rintro _ w70 ⟨rfl, x71⟩
  have z72 := x71.size
  replace hX := hX.ex x71
  replace hb0 := hb0.ext x71
  replace hE := Bel.ex hE x71
  replace hb6 := hb6.ext x71
  replace hm23 := hm23.ext x71
  replace hb25 := hb25.ext x71
  refine Rr QP (Qc (Qt ?_))
  refine QU (α := Nat × Value × Nat × Nat × List SV) [(8, 8), (10, 10), (44, 89)] (fun q => [(44, .int .i64 (q.1 : Int)), (8, .int .i64 (q.1 : Int))]) (fun q w' => (q.1 ≤ s.rs.length ∧ n2 ≤ q.2.2.1 ∧ q.2.2.2.2.length = q.1 ∧ q.2.2.2.2.map SV.x = (List.range q.1).map (fun j => junO od ((j + 1 : Nat) : Int))) ∧ Bel False (fun g => g = b25 ∨ n2 ≤ g) w70 w' ∧ (Box w' b25 119 (tbL (pB b) p.day nilS nilS q.2.1 (.map (some m23)) (.pointer none) nilS) ∧ Own encSV 1 32 (fun g => q.2.2.1 ≤ g ∧ g < q.2.2.2.1) w' q.2.1 q.2.2.2.2 ∧ q.2.2.2.1 ≤ w'.heap.size ∧ WdsAt (fun g => ¬ (q.2.2.1 ≤ g ∧ g < q.2.2.2.1) ∧ (g < n0 ∨ n2 ≤ g)) w' q.2.2.2.2)) (fun q => s.rs.length - q.1) (0, nilS, n2, n2, []) ⟨rfl, rfl, trivial⟩ ⟨⟨Nat.zero_le _, Nat.le_refl _, rfl, rfl⟩, Bel.refl _ _, ⟨hb25, Own.nil _ _, by show n2 ≤ _; omega, Y8⟩⟩ ?_
  rintro ⟨k, t, bt, et, J⟩ fb75 w74 ⟨⟨hk, hbt, hjl, hjx⟩, hXL73, ⟨hb25, hownj, het, hwj⟩⟩
  dsimp only at *
  have z76 := Bel.size hXL73
  replace hX := Bel.out hX hXL73 om2
  replace hb0 := hb0.keep hXL73 om1
  replace hE := Bel.out hE hXL73 om2
  replace hb6 := hb6.keep hXL73 om1
  replace hm23 := hm23.keep hXL73 om1
  refine Qf (Qb (Rr (QM rfl rfl) (Qc (Qf (Qw rfl (fun hc1 => ?_) (fun hc1 => ?_))))))
  ·have hq_k : k < s.rs.length := by have := dcT hc1; omega
   refine Qp (Qf (Qt (Qf (Qb (Rr (mvI rfl) (Rr (asI rfl) (Qc (Qf (Qf (Qb (Rr (mvB rfl) (Rr (mvB rfl) (ZD 1 48 rfl rfl rfl rfl rfl (ZD 1 48 rfl rfl rfl rfl rfl (ZD 1 48 rfl rfl rfl rfl rfl (ZD 1 48 rfl rfl rfl rfl rfl (ZD 1 48 rfl rfl rfl rfl rfl (ZD 1 48 rfl rfl rfl rfl rfl (ZD 1 48 rfl rfl rfl rfl rfl (Rr (Q0 (v := .bool _) rfl rfl) (Qc (Qq rfl (Qp (Qf ?_))))))))))))))))))))))))
   obtain ⟨n5, hn5⟩ : ∃ n, n = w74.heap.size := ⟨_, rfl⟩
   replace hwj := WdsAt.mono hwj (F' := fun g => (¬ (bt ≤ g ∧ g < et) ∧ (g < n0 ∨ n2 ≤ g)) ∧ g < n5) (fun g h1 h2 => ⟨h2, by omega⟩)
   apply Zl (β := False) (fun b => if (bt ≤ b ∧ b < et) ∨ n5 ≤ b then 1 else 0) [peqC _, peqC _, peqC _, peqC _, peqC _, peqC _, peqC _, peqC _, peqC _, (postW (SvP (fun g => g < n0 ∨ n2 ≤ g) (junO od ((k + 1 : Nat) : Int)))), (postB1 (SvE (junO od ((k + 1 : Nat) : Int))) (fun g => g < n0 ∨ n2 ≤ g) encSV 1 32), (postA1 (SvE (junO od ((k + 1 : Nat) : Int))) (fun g => g < n0 ∨ n2 ≤ g) encSV 1 32 1 J)] [0, 0, 0, 0, 0, 0, 0, 0, 0, 0, 0, 1] 12 QV (by kernel_rfl) (by kernel_rfl) rfl ⟨Qk _ _, Qk _ _, Qk _ _, Qk _ _, Qk _ _, Qk _ _, Qk _ _, Qk _ _, Qk _ _, (ZA (SvP.keepS _ _)), (Js (SvE.keep _)), (Jt (SvE.keep _)), trivial⟩ ?ob10 ?fin10
   case ob10 =>
    refine Ql (fun w77 c79 x78 hc080 hk81 => Qi (Qx rfl (mvP rfl))) (Ql (fun w83 c85 x84 hc086 hk87 => Qi (Qx rfl (mvP rfl))) (Ql (fun w89 c91 x90 hc092 hk93 => Qh (Qi (Qx rfl (QJ rfl)))) (Ql (fun w95 c97 x96 hc098 hk99 => Qh (Qi (Qx rfl (Qy underlying119 rfl sizeOf114 rfl)))) (Ql (fun w101 c103 x102 hc0104 hk105 => ?_) ?_))))
    ·replace x102 := Bel.mono x102 (D' := fun g => (bt ≤ g ∧ g < et) ∨ n5 ≤ g) omC
     have z106 := x102.size
     have hb25 := hb25.keep x102 om1
     exact Qh (Qi (Qx rfl (Qm isAgg114 rfl (hb25.at.get 4 rfl))))
    refine Ql (fun w107 c109 x108 hc0110 hk111 => Qi (Qx rfl (Qy underlying39 rfl sizeOf33 rfl))) (Ql (fun w113 c115 x114 hc0116 hk117 => ?_) ?_)
    ·replace x114 := Bel.mono x114 (D' := fun g => (bt ≤ g ∧ g < et) ∨ n5 ≤ g) omC
     have z118 := x114.size
     have hb6 := hb6.keep x114 om1
     exact Qh (Qi (Qx rfl (Qm isAgg33 rfl (hb6.at.get 4 rfl))))
    refine Ql (fun w119 c121 x120 hc0122 hk123 => Qi (Qx rfl (mvI rfl))) (Ql (fun w125 c127 x126 hc0128 hk129 => Qh (Qi (Qx rfl (ZB (p := k) (b := 1) rfl rfl (by omega))))) (Ql (fun w131 c133 x132 hc0134 hk135 => ?_) ?_))
    ·replace x132 := Bel.mono x132 (D' := fun g => (bt ≤ g ∧ g < et) ∨ n5 ≤ g) omC
     have z136 := x132.size
     have hE := Bel.out hE x132 om2
     refine Qh (Qh (Qi ?_))
     exact OpC_W2 (S := SvP (fun g => g < n0 ∨ n2 ≤ g) (junO od ((k + 1 : Nat) : Int))) (fun g => g < n0) (fun g h => ⟨by omega, (hc0134 g (by omega)).trans (if_neg (by omega))⟩) rfl (QB call108 rfl rfl) ((hjun_some p.lk po od (fun g => g < n0) ((k + 1 : Nat) : Int) _ (hha.ext hE) (ho.ext hE) (by unfold I64; omega)).mono (fun v w2 ⟨a, c, h1, h2, x⟩ => ⟨⟨fun g hg => hg.elim Or.inl (fun h => Or.inr (by have := h.1; omega)), a, c, h1, h2⟩, x⟩))
    refine Ql (fun w137 c139 x138 hc0140 hk141 => ?_) ?_
    ·refine Qz (fun v82 hv82 => ?_)
     obtain ⟨F82, hF82, hP82, a82, c82, rfl, hq82⟩ := hv82
     exact Qi ((Jw (vs := [.agg _]) [(⟨a82, c82, junO od ((k + 1 : Nat) : Int)⟩ : SV)] Q9 Ji rfl rfl ⟨rfl, trivial⟩ rfl rfl rfl rfl).mono3 (fun v w' c' hx ⟨a, h1, h2⟩ => ⟨a, _, h1, EZ.step (SvE.keep _) ⟨F82, hF82, hP82, rfl, hq82⟩ hx, h2⟩))
    refine Ql (fun w143 c145 x144 hc0146 hk147 => ?_) ?_
    ·replace x144 := Bel.mono x144 (D' := fun g => (bt ≤ g ∧ g < et) ∨ n5 ≤ g) omC
     refine Qh (Qz (fun v83 hv83 => ?_))
     obtain ⟨a83, z83, rfl, hz83, ho83⟩ := hv83
     refine Qz (fun v82 hv82 => ?_)
     obtain ⟨F82, hF82, hP82, a82, c82, rfl, hq82⟩ := hv82
     refine Qi ?_
     exact (Jg (by decide) Q9 Ji rfl rfl (((hownj.mono (D' := fun g => (bt ≤ g ∧ g < et) ∧ g < n5) (fun g h1 h2 => ⟨h2, by omega⟩)).ext (Bel.exV x144 (fun b hb hd => hk147 1 (by decide) (by kernel_rfl) b hb (if_pos hd)))).mono (fun g hg h => (hc0146 g (by omega)).trans (if_pos (Or.inl h.1)))) (Own.slA ho83 Q9) rfl (by simp only [List.length_singleton]; omega)).mono3 (fun v w' c' hx h => ⟨z83, EZ.step (SvE.keep _) hz83 hx, h⟩)
    exact Q8
   case fin10 =>
    intro w149 c151 x150 hc0152
    replace x150 := Bel.mono x150 (D' := fun g => (bt ≤ g ∧ g < et) ∨ n5 ≤ g) omC
    have z153 := x150.size
    replace hXL73 := Bel.out hXL73 x150 om2
    replace hb25 := hb25.keep x150 om1
    replace hwj := hwj.keep x150 om3
    refine Qh (Qh (Qh (Qh (Qh (Qh (Qh (Qh (Qh (Qz (fun v82 hv82 => ?_))))))))))
    obtain ⟨F82, hF82, hP82, a82, c82, rfl, hq82⟩ := hv82
    refine Qz (fun v83 hv83 => ?_)
    obtain ⟨a83, z83, rfl, hz83, ho83⟩ := hv83
    refine Qz (fun v84 hv84 => Qi ?_)
    obtain ⟨z84, ⟨F84, hF84, hP84, hzx, hz84⟩, ho84⟩ := hv84
    change Own _ _ _ _ _ _ _ at ho84
    have hown1 := Own.mono ho84 (D' := fun g => c151 g = 1 ∧ ((bt ≤ g ∧ g < et) ∨ n5 ≤ g)) (fun g h1 h2 => ⟨h2, Classical.byContradiction fun hn => by have hlt : g < n5 := Nat.lt_of_not_le (fun hq => hn (Or.inr hq)); have h : _ = (if (bt ≤ g ∧ g < et) ∨ n5 ≤ g then 1 else 0) := hc0152 g (by omega); rw [h2, if_neg hn] at h; cases h⟩)
    obtain ⟨bt2, et2, hiv, het2, hown2, hcz⟩ := ivE hown1 n2 (by omega)
    have hw2 := wds_snoc (WdsAt.mono hwj (F' := fun g => ¬ (bt2 ≤ g ∧ g < et2) ∧ (g < n0 ∨ n2 ≤ g)) (fun g h1 h2 => ⟨hcz g ((hc0152 g (by omega)).trans (if_neg (by omega))), h2.1.2⟩)) (hz84.mono (fun g h1 h2 => ⟨hcz g (hF84 g h2).2, hP84 g h2⟩))
    obtain ⟨a84, c84, hva84, -⟩ := hown2.sl Q9
    subst hva84
    have hownj := hown2
    replace hwj := hw2
    refine Rr (QJ rfl) (Rr (Qy underlying119 rfl sizeOf114 rfl) (Q6 (v := .slice _ _ _) rfl sizeOf114 rfl rfl hb25 rfl rfl rfl ?_))
    intro w154 c155 hb25
    have z156 := Bel.size c155
    replace hXL73 := Bel.out hXL73 c155 om2
    replace hwj := hwj.keep c155 om3
    replace hownj := hownj.keepD c155 om3
    refine Qc (Qb (Rr (mvI rfl) (Rr (QO rfl rfl omg) (Rr (asI rfl) (Qc (Qb (Rr (QO rfl rfl omg) (Rr (mvI rfl) (Qc ⟨(k + 1, .slice a84 (J ++ [z84]).length c84, bt2, et2, J ++ [z84]), ⟨sT, sT, trivial⟩, oT, ⟨?_, hXL73, ?_⟩, ?_⟩)))))))))
    ·refine ⟨by show k + 1 ≤ s.rs.length; omega, by show n2 ≤ bt2; omega, by simp [hjl], ?_⟩
     show (J ++ [z84]).map SV.x = _
     rw [List.map_append]
     exact rng_snoc hjx hzx
    ·exact ⟨hb25, hownj, by show et2 ≤ _; omega, hwj⟩
    ·show s.rs.length - (k + 1) < s.rs.length - k; omega
  have hq_k : ¬ k < s.rs.length := by have := dcF hc1; omega
  refine QN (QI (Qf (Qf (Qb ?_))))
  obtain ⟨n8, hn8⟩ : ∃ n, n = w74.heap.size := ⟨_, rfl⟩
  have hkm : k = s.rs.length := by omega
  obtain ⟨aj, cj, ht, hsj0⟩ := hownj.sl Q9
  subst ht
  have hsj := hsj0.mono (F' := fun g => (g < n0 ∨ n2 ≤ g) ∧ g < n8) (fun g h1 h2 => ⟨Or.inr (by omega), by omega⟩)
  replace hwj := WdsAt.mono hwj (F' := fun g => (g < n0 ∨ n2 ≤ g) ∧ g < n8) (fun g h1 h2 => ⟨h2.2, by omega⟩)
  rw [hkm] at hjx
  refine Rr (mvP rfl) (Qo rfl (QD call109 rfl) (Ok.mono (susers_ok b p s _ (hst.ext hE) (hp.ext hE)) ?_))
  rintro _ w157 ⟨rfl, x158⟩
  have z159 := x158.size
  replace hX := hX.ex x158
  replace hb0 := hb0.ext x158
  replace hE := Bel.ex hE x158
  replace hb6 := hb6.ext x158
  replace hm23 := hm23.ext x158
  replace hb25 := hb25.ext x158
  replace hwj := hwj.ext x158
  replace hsj := hsj.ext x158
  refine Rr QP (Qc (Qt (QU (α := Nat × Option Addr × Nat × List SV × Option Addr × Nat × List SV) [(8, 8), (11, 12), (92, 160)] (fun q => [(92, .int .i64 (q.1 : Int)), (8, .int .i64 ((k + q.1 : Nat) : Int))]) (fun q w' => (q.1 ≤ s.us.length ∧ (q.1 = 0 → q.2.1 = none ∧ q.2.2.1 = 0 ∧ q.2.2.2.1 = [] ∧ q.2.2.2.2.1 = none ∧ q.2.2.2.2.2.1 = 0 ∧ q.2.2.2.2.2.2 = []) ∧ q.2.2.2.1.map SV.x = (List.range q.1).map (fun j => onW s.mb ((j + 1 : Nat) : Int) p.day) ∧ q.2.2.2.2.2.2.map SV.x = q.2.2.2.1.map (fun e => clW J (memW e.x 64))) ∧ Bel False (fun g => g = b25 ∨ n8 ≤ g) w157 w' ∧ (Box w' b25 119 (tbL (pB b) p.day (.slice q.2.1 q.2.2.2.1.length q.2.2.1) (.slice q.2.2.2.2.1 q.2.2.2.2.2.2.length q.2.2.2.2.2.1) (.slice aj J.length cj) (.map (some m23)) (.pointer none) nilS) ∧ Sl encSV 1 (fun g => n8 ≤ g) w' q.2.1 q.2.2.1 q.2.2.2.1 ∧ WdsAt (fun g => n8 ≤ g) w' q.2.2.2.1 ∧ Sl encSV 1 (fun g => n8 ≤ g) w' q.2.2.2.2.1 q.2.2.2.2.2.1 q.2.2.2.2.2.2 ∧ WdsAt (fun g => n8 ≤ g) w' q.2.2.2.2.2.2)) (fun q => s.us.length - q.1) (0, none, 0, [], none, 0, []) ⟨rfl, rfl, trivial⟩ ⟨⟨Nat.zero_le _, fun _ => ⟨rfl, rfl, rfl, rfl, rfl, rfl⟩, rfl, rfl⟩, Bel.refl _ _, ⟨hb25, Sl.none, Y8, Sl.none, Y8⟩⟩ ?_)))
  rintro ⟨k1, ae, ce, E, am, cm, M⟩ fb162 w161 ⟨⟨hk1, hz1, hex, hmx⟩, hXL160, ⟨hb25, hse0, hwe, hsm, hwm⟩⟩
  dsimp only at *
  have z163 := Bel.size hXL160
  replace hX := Bel.out hX hXL160 om2
  replace hb0 := hb0.keep hXL160 om1
  replace hE := Bel.out hE hXL160 om2
  replace hb6 := hb6.keep hXL160 om1
  replace hm23 := hm23.keep hXL160 om1
  replace hwj := hwj.keep hXL160 om3
  replace hsj := hsj.keep hXL160 om3
  refine Qf (Qb (Rr (QM rfl rfl) (Qc (Qf (Qw rfl (fun hc3 => ?_) (fun hc3 => ?_))))))
  ·have hq_k1 : k1 < s.us.length := by have := dcT hc3; omega
   obtain rfl : k1 = 0 := by omega
   obtain ⟨rfl, rfl, rfl, rfl, rfl, rfl⟩ := hz1 rfl
   refine Qp (Qf (Qt (Qf (Qb (Rr (mvI rfl) (Rr (asI rfl) (Qc (Qf (Qb (Rr (mvP rfl) (Rr (mvI rfl) (Rr (ZB (p := 0) (b := 1) rfl rfl (by omega)) (Qo rfl (QB call110 rfl rfl) (Ok.mono (sexpl_ok b p s _ (hst.ext hE) (hp.ext hE) hs.mb ((0 + 1 : Nat) : Int) (by omega)) ?_))))))))))))))
   rintro _ w164 ⟨a98, c98, rfl, hq98, x165⟩
   have z166 := x165.size
   replace hXL160 := Bel.ex hXL160 x165
   replace hE := Bel.ex hE x165
   replace hwj := hwj.ext x165
   replace hsj := hsj.ext x165
   replace hb25 := hb25.ext x165
   refine Zk rfl rfl zeroValue32 rfl sizeOf32 (fun _ => rfl) rfl rfl ?_
   intro b12 w167 x168 hge12 hb12
   have hlt12 := hb12.lt
   have z169 := x168.size
   replace hXL160 := Bel.ex hXL160 x168
   replace hE := Bel.ex hE x168
   replace hwj := hwj.ext x168
   replace hsj := hsj.ext x168
   replace hb25 := hb25.ext x168
   replace hq98 := hq98.ext x168
   refine Qc (Qf ?_)
   obtain ⟨n9, hn9⟩ : ∃ n, n = w167.heap.size := ⟨_, rfl⟩
   apply Zl (β := False) (fun _ => 0) [peqC _, peqC _, peqC _, peqC _, peqC _, peqC _, (fun v w cc => ∃ a, v = .slice a 1 1 ∧ postOwn encSV 1 32 0 [(⟨a98, c98, onW s.mb ((0 + 1 : Nat) : Int) p.day⟩ : SV)] v w cc), (postOwn encSV 1 32 1 ([] ++ [(⟨a98, c98, onW s.mb ((0 + 1 : Nat) : Int) p.day⟩ : SV)]))] [0, 0, 0, 0, 0, 0, 0, 1] 8 QV (by kernel_rfl) (by kernel_rfl) rfl ⟨Qk _ _, Qk _ _, Qk _ _, Qk _ _, Qk _ _, Qk _ _, (ZJ), (Zc), trivial⟩ ?ob17 ?fin17
   case ob17 =>
    refine Ql (fun w170 c172 x171 hc0173 hk174 => Qi (Qx rfl (mvP rfl))) (Ql (fun w176 c178 x177 hc0179 hk180 => Qi (Qx rfl (mvP rfl))) (Ql (fun w182 c184 x183 hc0185 hk186 => Qh (Qi (Qx rfl (QJ rfl)))) (Ql (fun w188 c190 x189 hc0191 hk192 => Qh (Qi (Qx rfl (Qy underlying119 rfl sizeOf114 rfl)))) (Ql (fun w194 c196 x195 hc0197 hk198 => ?_) ?_))))
    ·replace x195 := RelG.ext0 x195
     have hb25 := hb25.ext x195
     exact Qh (Qi (Qx rfl (Qm isAgg114 rfl (hb25.at.get 2 rfl))))
    refine Ql (fun w200 c202 x201 hc0203 hk204 => ?_) ?_
    ·replace x201 := RelG.ext0 x201
     have hb12 := hb12.ext x201
     exact Qi (Qx rfl (QF isAgg32 sizeOf32 rfl hb12.at rfl))
    refine Ql (fun w206 c208 x207 hc0209 hk210 => Qh (Qi (Jw (vs := [.agg _]) [(⟨a98, c98, onW s.mb ((0 + 1 : Nat) : Int) p.day⟩ : SV)] Q9 Ji rfl rfl ⟨rfl, trivial⟩ rfl rfl rfl rfl))) (Ql (fun w212 c214 x213 hc0215 hk216 => ?_) ?_)
    ·refine Qh (Qz (fun v105 hv105 => ?_))
     obtain ⟨a105, rfl, ho105⟩ := hv105
     refine Qi ?_
     exact Jg (by decide) Q9 Ji rfl rfl (Own.nil _ _) (Own.slA ho105 Q9) rfl (by simp only [List.length_singleton, List.length_nil]; omega)
    exact Q8
   case fin17 =>
    intro w218 c220 x219 hc0221
    replace x219 := RelG.ext0 x219
    have z222 := x219.size
    replace hXL160 := Bel.ex hXL160 x219
    replace hE := Bel.ex hE x219
    replace hwj := hwj.ext x219
    replace hsj := hsj.ext x219
    replace hb25 := hb25.ext x219
    replace hq98 := hq98.ext x219
    replace hb12 := hb12.ext x219
    refine Qh (Qh (Qh (Qh (Qh (Qh (Qz (fun v105 hv105 => ?_)))))))
    obtain ⟨a105, rfl, ho105⟩ := hv105
    refine Qz (fun v106 hv106 => Qi ?_)
    change Own _ _ _ _ _ _ _ at hv106
    have hown106 := Own.mono hv106 (D' := fun g => n9 ≤ g) (fun g h1 h2 => Nat.le_of_not_lt fun q => by have h := hc0221 g (by omega); rw [h2] at h; simp at h)
    obtain ⟨a106, c106, hva106, hs106⟩ := hown106.sl Q9
    subst hva106
    rw [List.nil_append] at hs106
    refine Rr (QJ rfl) (Rr (Qy underlying119 rfl sizeOf114 rfl) (Q6 (v := .slice _ _ _) rfl sizeOf114 rfl rfl hb25 rfl rfl rfl ?_))
    intro w223 c224 hb25
    have z225 := Bel.size c224
    replace hXL160 := Bel.out hXL160 c224 om2
    replace hE := Bel.out hE c224 om2
    replace hwj := hwj.keep c224 om3
    replace hsj := hsj.keep c224 om3
    replace hq98 := hq98.keep c224 om3
    replace hb12 := hb12.keep c224 om1
    replace hs106 := hs106.keep c224 om3
    refine Qc (Qf (Qf ?_))
    apply Q3 (β := False) [peq _, peq _, peq _, peq _, peq _, peq _, peq _, peq _, peq _, peq _, peq _, peq _, peq _, peq _, peq _, peq _, peq _, peq _, peq _, peq _, peq _] 21 QV (by kernel_rfl) rfl ⟨Qd _, Qd _, Qd _, Qd _, Qd _, Qd _, Qd _, Qd _, Qd _, Qd _, Qd _, Qd _, Qd _, Qd _, Qd _, Qd _, Qd _, Qd _, Qd _, Qd _, Qd _, trivial⟩ ?ob18 ?fin18
    case ob18 =>
     exact Qg (fun _ _ => Qe (Qn rfl (mvB rfl))) (Qg (fun _ _ => Qa (Qe (Qn rfl (mvB rfl)))) (Qg (fun _ _ => Qa (Qe (Zd 1 110 rfl rfl rfl))) (Qg (fun _ _ => Qa (Qe (Zd 1 110 rfl rfl rfl))) (Qg (fun _ _ => Qa (Qa (Qe (Zd 1 110 rfl rfl rfl)))) (Qg (fun _ _ => Qa (Qa (Qe (Zd 1 110 rfl rfl rfl)))) (Qg (fun _ _ => Qa (Qa (Qe (Zd 1 110 rfl rfl rfl)))) (Qg (fun _ _ => Qa (Qa (Qe (Zd 1 110 rfl rfl rfl)))) (Qg (fun _ _ => Qa (Qa (Qa (Qe (Zd 1 110 rfl rfl rfl))))) (Qg (fun _ _ => Qa (Qa (Qe (Qn rfl (Q0 (v := .bool _) rfl rfl))))) (Qg (fun _ _ => Qa (Qa (Qe (Qn rfl (mvB rfl))))) (Qg (fun _ _ => Qa (Qe (Zd 10 119 rfl rfl rfl))) (Qg (fun _ _ => Qa (Qa (Qe (Zd 10 119 rfl rfl rfl)))) (Qg (fun _ _ => Qa (Qa (Qe (Zd 10 119 rfl rfl rfl)))) (Qg (fun _ _ => Qa (Qa (Qe (Zd 10 119 rfl rfl rfl)))) (Qg (fun _ _ => Qa (Qe (Zd 10 119 rfl rfl rfl))) (Qg (fun _ _ => Qa (Qa (Qa (Qe (Zd 10 119 rfl rfl rfl))))) (Qg (fun _ _ => Qa (Qa (Qe (Zd 10 119 rfl rfl rfl)))) (Qg (fun _ _ => Qa (Qe (Zd 10 119 rfl rfl rfl))) (Qg (fun _ _ => Qa (Qa (Qa (Qa (Qe (Zd 10 119 rfl rfl rfl)))))) (Qg (fun _ _ => Qa (Qa (Qe (Qn rfl (Q0 (v := .bool _) rfl rfl))))) QR))))))))))))))))))))
    case fin18 =>
     intro w289 x290
     have z291 := x290.size
     replace hXL160 := Bel.ex hXL160 x290
     replace hE := Bel.ex hE x290
     replace hwj := hwj.ext x290
     replace hsj := hsj.ext x290
     replace hb25 := hb25.ext x290
     replace hq98 := hq98.ext x290
     replace hb12 := hb12.ext x290
     replace hs106 := hs106.ext x290
     refine Qa (Qa (Qa (Qa (Qa (Qa (Qa (Qa (Qa (Qa (Qa (Qa (Qa (Qa (Qa (Qa (Qa (Qa (Qa (Qa (Qa (Qe (Qc (Qq rfl (Qp (Qf ?_)))))))))))))))))))))))))
     obtain ⟨nB, hnB⟩ : ∃ n, n = w289.heap.size := ⟨_, rfl⟩
     apply Zl (β := False) (fun _ => 0) [peqC _, peqC _, peqC _, peqC _, peqC _, peqC _, peqC _, (postW (SvP (fun g => nB ≤ g) (clW J (memW (onW s.mb ((0 + 1 : Nat) : Int) p.day) 64)))), (postB1 (SvE (clW J (memW (onW s.mb ((0 + 1 : Nat) : Int) p.day) 64))) (fun g => nB ≤ g) encSV 1 32), (postA1 (SvE (clW J (memW (onW s.mb ((0 + 1 : Nat) : Int) p.day) 64))) (fun g => nB ≤ g) encSV 1 32 1 [])] [0, 0, 0, 0, 0, 0, 0, 0, 0, 1] 10 QV (by kernel_rfl) (by kernel_rfl) rfl ⟨Qk _ _, Qk _ _, Qk _ _, Qk _ _, Qk _ _, Qk _ _, Qk _ _, (ZA (SvP.keepS _ _)), (Js (SvE.keep _)), (Jt (SvE.keep _)), trivial⟩ ?ob20 ?fin20
     case ob20 =>
      refine Ql (fun w292 c294 x293 hc0295 hk296 => Qi (Qx rfl (mvP rfl))) (Ql (fun w298 c300 x299 hc0301 hk302 => Qi (Qx rfl (mvP rfl))) (Ql (fun w304 c306 x305 hc0307 hk308 => Qh (Qi (Qx rfl (QJ rfl)))) (Ql (fun w310 c312 x311 hc0313 hk314 => Qh (Qi (Qx rfl (Qy underlying119 rfl sizeOf114 rfl)))) (Ql (fun w316 c318 x317 hc0319 hk320 => ?_) ?_))))
      ·replace x317 := RelG.ext0 x317
       have hb25 := hb25.ext x317
       exact Qh (Qi (Qx rfl (Qm isAgg114 rfl (hb25.at.get 3 rfl))))
      refine Ql (fun w322 c324 x323 hc0325 hk326 => Qi (Qx rfl (mvP rfl))) (Ql (fun w328 c330 x329 hc0331 hk332 => ?_) ?_)
      ·replace x329 := RelG.ext0 x329
       have hb12 := hb12.ext x329
       exact Qi (Qx rfl (QF isAgg32 sizeOf32 rfl hb12.at rfl))
      refine Ql (fun w334 c336 x335 hc0337 hk338 => ?_) ?_
      ·replace x335 := RelG.ext0 x335
       have z339 := x335.size
       have hE := Bel.ex hE x335
       have hwj := hwj.ext x335
       have hsj := hsj.ext x335
       have hb25 := hb25.ext x335
       have hq98 := hq98.ext x335
       refine Qh (Qh (Qi ?_))
       exact Yt (S := SvP (fun g => nB ≤ g) (clW J (memW (onW s.mb ((0 + 1 : Nat) : Int) p.day) 64))) rfl (QB call111 rfl rfl) ((Vl b25 _ _ _ _ _ _ _ aj cj _ J (⟨a98, c98, onW s.mb ((0 + 1 : Nat) : Int) p.day⟩ : SV) _ _ hb25.at hsj hwj hq98 (hT.ext hE)).mono (fun v w2 ⟨a, c, h1, h2, x⟩ => ⟨⟨fun g hg => by have := hg.1; omega, a, c, h1, h2⟩, x⟩))
      refine Ql (fun w340 c342 x341 hc0343 hk344 => ?_) ?_
      ·refine Qz (fun v153 hv153 => ?_)
       obtain ⟨F153, hF153, hP153, a153, c153, rfl, hq153⟩ := hv153
       exact Qi ((Jw (vs := [.agg _]) [(⟨a153, c153, clW J (memW (onW s.mb ((0 + 1 : Nat) : Int) p.day) 64)⟩ : SV)] Q9 Ji rfl rfl ⟨rfl, trivial⟩ rfl rfl rfl rfl).mono3 (fun v w' c' hx ⟨a, h1, h2⟩ => ⟨a, _, h1, EZ.step (SvE.keep _) ⟨F153, hF153, hP153, rfl, hq153⟩ hx, h2⟩))
      refine Ql (fun w346 c348 x347 hc0349 hk350 => ?_) ?_
      ·refine Qh (Qz (fun v154 hv154 => ?_))
       obtain ⟨a154, z154, rfl, hz154, ho154⟩ := hv154
       refine Qz (fun v153 hv153 => ?_)
       obtain ⟨F153, hF153, hP153, a153, c153, rfl, hq153⟩ := hv153
       refine Qi ?_
       exact (Jg (by decide) Q9 Ji rfl rfl (Own.nil _ _) (Own.slA ho154 Q9) rfl (by simp only [List.length_singleton, List.length_nil]; omega)).mono3 (fun v w' c' hx h => ⟨z154, EZ.step (SvE.keep _) hz154 hx, h⟩)
      exact Q8
     case fin20 =>
      intro w352 c354 x353 hc0355
      replace x353 := RelG.ext0 x353
      have z356 := x353.size
      replace hXL160 := Bel.ex hXL160 x353
      replace hb25 := hb25.ext x353
      replace hq98 := hq98.ext x353
      replace hs106 := hs106.ext x353
      refine Qh (Qh (Qh (Qh (Qh (Qh (Qh (Qz (fun v153 hv153 => ?_))))))))
      obtain ⟨F153, hF153, hP153, a153, c153, rfl, hq153⟩ := hv153
      refine Qz (fun v154 hv154 => ?_)
      obtain ⟨a154, z154, rfl, hz154, ho154⟩ := hv154
      refine Qz (fun v155 hv155 => Qi ?_)
      obtain ⟨z155, ⟨F155, hF155, hP155, hzx155, hz155⟩, ho155⟩ := hv155
      change Own _ _ _ _ _ _ _ at ho155
      have hown155 := Own.mono ho155 (D' := fun g => nB ≤ g) (fun g h1 h2 => Nat.le_of_not_lt fun q => by have h := hc0355 g (by omega); rw [h2] at h; simp at h)
      obtain ⟨a155, c155, hva155, hs155⟩ := hown155.sl Q9
      subst hva155
      rw [List.nil_append] at hs155
      replace hz155 := hz155.mono (F' := fun g => nB ≤ g) (fun g h1 h2 => hP155 g h2)
      refine Rr (QJ rfl) (Rr (Qy underlying119 rfl sizeOf114 rfl) (Q6 (v := .slice _ _ _) rfl sizeOf114 rfl rfl hb25 rfl rfl rfl ?_))
      intro w357 c358 hb25
      have z359 := Bel.size c358
      replace hXL160 := Bel.out hXL160 c358 om2
      replace hq98 := hq98.keep c358 om3
      replace hs106 := hs106.keep c358 om3
      replace hs155 := hs155.keep c358 om3
      replace hz155 := hz155.keep c358 om3
      refine Qc (Qb (Rr (mvI rfl) (Rr (QO rfl rfl omg) (Rr (asI rfl) (Qc (Qb (Rr (QO rfl rfl omg) (Rr (mvI rfl) (Qc ⟨(1, a106, c106, [(⟨a98, c98, onW s.mb ((0 + 1 : Nat) : Int) p.day⟩ : SV)], a155, c155, [z155]), ⟨sT, sT, trivial⟩, oT, ⟨?_, hXL160, ?_⟩, ?_⟩)))))))))
      ·refine ⟨by show 1 ≤ s.us.length; omega, fun h => by simp at h, rfl, ?_⟩
       show [z155.x] = _
       rw [hzx155]; rfl
      ·exact ⟨hb25, hs106.mono (fun g h1 h2 => by omega), fun z hz => by rw [List.mem_singleton.1 hz]; exact hq98.mono (fun g h1 h2 => by have := h2.1; omega), hs155.mono (fun g h1 h2 => by omega), fun z hz => by rw [List.mem_singleton.1 hz]; exact hz155.mono (fun g h1 h2 => by omega)⟩
      ·show s.us.length - 1 < s.us.length - 0; omega
  have hq_k1 : ¬ k1 < s.us.length := by have := dcF hc3; omega
  refine QN (QI (Qf (Qf (Qb (Rr (Qy underlying39 rfl sizeOf37 rfl) (Rr (Qm isAgg37 rfl (hb6.at.get 9 rfl)) (Qo rfl (QD call112 rfl) (Ok.mono (Vk _ s.ss _ (hp.ext hE).ss hs.ss) ?_))))))))
  rintro v163 w360 ⟨⟨l163, hown163, hses163, hl163⟩, x361⟩
  have z362 := x361.size
  replace hX := hX.ex x361
  replace hb0 := hb0.ext x361
  replace hE := Bel.ex hE x361
  replace hb6 := hb6.ext x361
  replace hm23 := hm23.ext x361
  replace hwj := hwj.ext x361
  replace hsj := hsj.ext x361
  replace hb25 := hb25.ext x361
  replace hse0 := hse0.ext x361
  replace hwe := hwe.ext x361
  replace hsm := hsm.ext x361
  replace hwm := hwm.ext x361
  have hll163 := congrArg List.length hl163
  rw [List.length_map] at hll163
  have hlsl : l163.length = s.ss.length := by rw [← hl163, List.length_map]
  obtain ⟨a163, c163, hv163, hs163⟩ := hown163.sl Zw
  subst hv163
  replace hs163 := hs163.mono (F' := fun g => n8 ≤ g) (fun g h1 h2 => by have := h2.1; omega)
  refine Rr (QC underlying141 rfl) (Rr QP (Qc (Qt (QU (α := Nat × List (Int × RowV)) [(8, 8), (14, 14), (165, 189)] (fun q => [(165, .int .i64 (q.1 : Int)), (8, .int .i64 ((k + k1 + q.1 : Nat) : Int))]) (fun q w' => (q.1 ≤ l163.length ∧ OSp J M l163 q.1 q.2) ∧ Bel False (fun g => g = m23) w360 w' ∧ (Mp ekI rowE w' m23 q.2 ∧ (∀ r ∈ q.2, Sl encU 1 (fun g => n8 ≤ g) w' r.2.s.a r.2.s.c (wl r.2.s.x)) ∧ SesAt (Lt w'.heap.size) w' l163)) (fun q => l163.length - q.1) (0, []) ⟨rfl, rfl, trivial⟩ ⟨⟨Nat.zero_le _, .inl ⟨rfl, rfl⟩⟩, Bel.refl _ _, ⟨hm23, fun r hr => (by cases hr), hses163⟩⟩ ?_))))
  rintro ⟨k2, O⟩ fb365 w364 ⟨⟨hk2, hosp⟩, hXL363, ⟨hm23, how, hses163⟩⟩
  dsimp only at *
  have z366 := Bel.size hXL363
  replace hX := Bel.out hX hXL363 om2
  replace hb0 := hb0.keep hXL363 om1
  replace hE := Bel.out hE hXL363 om2
  replace hb6 := hb6.keep hXL363 om1
  replace hwj := hwj.keep hXL363 om3
  replace hsj := hsj.keep hXL363 om3
  replace hb25 := hb25.keep hXL363 om1
  replace hse0 := hse0.keep hXL363 om3
  replace hwe := hwe.keep hXL363 om3
  replace hsm := hsm.keep hXL363 om3
  replace hwm := hwm.keep hXL363 om3
  replace hs163 := hs163.keep hXL363 om3
  refine Qf (Qb (Rr (QM rfl rfl) (Qc (Qf (Qw rfl (fun hc5 => ?_) (fun hc5 => ?_))))))
  ·have hk5 : k2 < l163.length := by have := dcT hc5; omega
   obtain rfl : k2 = 0 := by omega
   obtain rfl : O = [] := by
    rcases hosp with ⟨-, h⟩ | ⟨_, h, -⟩
    ·exact h
    ·cases h
   refine Qp (Qf (Qt (Qf (Qb (Rr (QW underlying141 sizeOf145 hs163 rfl rfl omg) (Rr (QY isAgg145 sizeOf145 hs163 rfl (Ze sez hk5)) (Zk rfl rfl zeroValue145 rfl sizeOf145 (fun _ => rfl) rfl rfl ?_)))))))
   intro b14 w367 x368 hge14 hb14
   have hlt14 := hb14.lt
   have z369 := x368.size
   replace hXL363 := Bel.ex hXL363 x368
   replace hE := Bel.ex hE x368
   replace hwj := hwj.ext x368
   replace hsj := hsj.ext x368
   replace hb25 := hb25.ext x368
   replace hsm := hsm.ext x368
   replace hwm := hwm.ext x368
   replace hm23 := hm23.ext x368
   replace hses163 := SesAt.topx hses163 x368
   refine Qc (Qf ?_)
   obtain ⟨nC, hnC⟩ : ∃ n, n = w367.heap.size := ⟨_, rfl⟩
   have hsx : (l163.getD 0 sez).rs ∈ s.ss := by rw [← hl163]; exact List.mem_map_of_mem (gm hk5)
   have hsu : 1 ≤ (l163.getD 0 sez).u ∧ (l163.getD 0 sez).u ≤ 256 := hs.ss.usr _ hsx
   have hse := hses163 _ (gm (z := sez) hk5)
   apply Q3 (β := False) [peq _, peq _, peq _, peq _, peq _, peq _, peq _, peq _, peq _, peq _, peq _, peq _, peq _, peq _, peq _, (postSV (fun _ => True) ((l163.getD 0 sez).x &&& (getV M ((l163.getD 0 sez).u - 1)).x)), (postSV (fun g => nC ≤ g) (clW J (memW ((l163.getD 0 sez).x &&& (getV M ((l163.getD 0 sez).u - 1)).x) 64))), (fun v w => ∃ a c, v = .agg (.int .i64 (l163.getD 0 sez).u :: encSV ⟨a, c, (clW J (memW ((l163.getD 0 sez).x &&& (getV M ((l163.getD 0 sez).u - 1)).x) 64))⟩).toArray ∧ Sl encU 1 (fun g => nC ≤ g) w a c (wl (clW J (memW ((l163.getD 0 sez).x &&& (getV M ((l163.getD 0 sez).u - 1)).x) 64))))] 18 QV (by kernel_rfl) rfl ⟨Qd _, Qd _, Qd _, Qd _, Qd _, Qd _, Qd _, Qd _, Qd _, Qd _, Qd _, Qd _, Qd _, Qd _, Qd _, (Zf _ _), (Zf _ _), ((by rintro v w w2 ⟨a, c, h1, h2⟩ x; exact ⟨a, c, h1, h2.ext x⟩)), trivial⟩ ?ob26 ?fin26
   case ob26 =>
    refine Qg (fun _ _ => Qe (Qn rfl (mvP rfl))) (Qg (fun _ _ => Qa (Qe (Qn rfl (QJ rfl)))) (Qg (fun _ _ => Qa (Qe (Qn rfl (Qy underlying119 rfl sizeOf115 rfl)))) (Qg (fun w379 x380 => ?_) ?_)))
    ·have hb25 := hb25.ext x380
     exact Qa (Qe (Qn rfl (Qm isAgg115 rfl (hb25.at.get 5 rfl))))
    refine Qg (fun _ _ => Qe (Qn rfl (Qy underlying145 rfl sizeOf3 rfl))) (Qg (fun w385 x386 => ?_) ?_)
    ·have hb14 := hb14.ext x386
     exact Qa (Qe (Qn rfl (Qm isAgg3 rfl (hb14.at.get 0 rfl))))
    refine Qg (fun _ _ => Qe (Qn rfl (Qy underlying145 rfl sizeOf3 rfl))) (Qg (fun w391 x392 => ?_) ?_)
    ·have hb14 := hb14.ext x392
     exact Qa (Qe (Qn rfl (Qm isAgg3 rfl (hb14.at.get 1 rfl))))
    refine Qg (fun _ _ => Qe (Qn rfl (mvP rfl))) (Qg (fun _ _ => Qe (Qn rfl (Qy underlying145 rfl sizeOf32 rfl))) (Qg (fun w400 x401 => ?_) ?_))
    ·have hb14 := hb14.ext x401
     exact Qa (Qe (Qn rfl (QF isAgg32 sizeOf32 rfl (hb14.at.sub 2 1) rfl)))
    refine Qg (fun _ _ => Qe (Qn rfl (mvP rfl))) (Qg (fun _ _ => Qe (Qn rfl (Qy underlying145 rfl sizeOf3 rfl))) (Qg (fun w409 x410 => ?_) ?_))
    ·have hb14 := hb14.ext x410
     exact Qa (Qe (Qn rfl (Qm isAgg3 rfl (hb14.at.get 1 rfl))))
    refine Qg (fun w412 x413 => ?_) ?_
    ·have hb25 := hb25.ext x413
     have hsm := hsm.ext x413
     refine Qa (Qa (Qe ?_))
     exact Zj rfl (QB call24 rfl rfl) (JO b25 _ _ nilS _ _ _ _ _ am cm _ M (l163.getD 0 sez).u (by unfold I64; omega) _ hb25.at hsm)
    refine Qg (fun w415 x416 => ?_) ?_
    ·have hwm := hwm.ext x416
     have hse := hse.ext x416
     exact Qa (Qa (Qa (Qe (ZK rfl (QB call113 rfl rfl) ((band_ok _ ⟨(l163.getD 0 sez).a, (l163.getD 0 sez).c, (l163.getD 0 sez).x⟩ _ hse (getV M ((l163.getD 0 sez).u - 1)) _ (Jx hwm _)).mono (fun v w2 ⟨a, c, e, h, x⟩ => ⟨x, a, c, e, h.mono (fun g h1 h2 => by trivial)⟩))))))
    refine Qg (fun w418 x419 => ?_) ?_
    ·have z420 := x419.size
     have hE := Bel.ex hE x419
     have hwj := hwj.ext x419
     have hsj := hsj.ext x419
     have hb25 := hb25.ext x419
     refine Qa (QQ (fun v184 hv184 => ?_))
     obtain ⟨a184, c184, rfl, hq184⟩ := hv184
     refine QQ (fun v184 hv184 => ?_)
     obtain ⟨a184, c184, rfl, hq184⟩ := hv184
     refine Qe ?_
     exact ZK rfl (QB call111 rfl rfl) ((Vl b25 _ _ _ _ _ _ _ aj cj _ J ⟨a184, c184, ((l163.getD 0 sez).x &&& (getV M ((l163.getD 0 sez).u - 1)).x)⟩ _ _ hb25.at hsj hwj hq184 (hT.ext hE)).mono (fun v w2 ⟨a, c, e, h, x⟩ => ⟨x, a, c, e, h.mono (fun g h1 h2 => by have := h2.1; omega)⟩))
    refine Qg (fun w421 x422 => ?_) ?_
    ·refine Qa (QQ (fun v185 hv185 => ?_))
     obtain ⟨a185, c185, rfl, hq185⟩ := hv185
     exact Qe (OpS_vp rfl (Q2 (cells := (.int .i64 (l163.getD 0 sez).u :: encSV ⟨a185, c185, (clW J (memW ((l163.getD 0 sez).x &&& (getV M ((l163.getD 0 sez).u - 1)).x) 64))⟩)) (vs := [(0, .int _ _), (1, .agg _)]) rfl (by kernel_rfl)) (⟨_, _, rfl, hq185⟩))
    exact QR
   case fin26 =>
    intro w424 x425
    have z426 := x425.size
    replace hXL363 := Bel.ex hXL363 x425
    replace hm23 := hm23.ext x425
    replace hses163 := SesAt.topx hses163 x425
    refine Qa (Qa (Qa (Qa (Qa (Qa (Qa (Qa (Qa (Qa (Qa (Qa (Qa (Qa (Qa (QQ (fun v184 hv184 => ?_))))))))))))))))
    obtain ⟨a184, c184, rfl, hq184⟩ := hv184
    refine QQ (fun v185 hv185 => ?_)
    obtain ⟨a185, c185, rfl, hq185⟩ := hv185
    refine QQ (fun v186 hv186 => ?_)
    obtain ⟨a186, c186, rfl, hq186⟩ := hv186
    refine Qe ?_
    have hm230 := hm23
    have hMp0 := hm23
    refine Rg_oput rfl underlying115 underlying3 rfl rfl rfl hm23 ?_
    intro w427 x428 hm23
    have z429 := x428.size
    replace hXL363 := Bel.out hXL363 x428 om2
    replace hses163 := (fun z hz => ((Sl_ne (by decide) (hses163 z hz) hMp0).keep x428 (fun _ _ h => h.2)).top)
    replace hq186 := hq186.keep x428 om3
    refine Qc (Qb (Rr (mvI rfl) (Rr (QO rfl rfl omg) (Rr (asI rfl) (Qc (Qb (Rr (QO rfl rfl omg) (Rr (mvI rfl) (Qc ⟨(1, [((l163.getD 0 sez).n, ⟨(l163.getD 0 sez).u, ⟨a186, c186, (clW J (memW ((l163.getD 0 sez).x &&& (getV M ((l163.getD 0 sez).u - 1)).x) 64))⟩⟩)]), ⟨sT, sT, trivial⟩, oT, ⟨?_, hXL363, ?_⟩, ?_⟩)))))))))
    ·exact ⟨by show 1 ≤ l163.length; omega, .inr ⟨_, rfl, rfl, rfl⟩⟩
    ·exact ⟨hm23, fun r hr => by rw [List.mem_singleton.1 hr]; exact hq186.mono (fun g h1 h2 => by omega), hses163⟩
    ·show l163.length - 1 < l163.length - 0; omega
  have hk5 : ¬ k2 < l163.length := by have := dcF hc5; omega
  refine QN (QI (Qf (Qf ?_)))
  apply Q3 (β := False) [peq _, peq _, peq _, peq _, peq _, peq _, peq _, peq _, peq _, peq _, peq _, peq _, peq _, peq _, peq _, peq _, peq _, peq _, peq _, peq _, peq _, peq _, peq _, peq _, peq _, peq _] 26 QV (by kernel_rfl) rfl ⟨Qd _, Qd _, Qd _, Qd _, Qd _, Qd _, Qd _, Qd _, Qd _, Qd _, Qd _, Qd _, Qd _, Qd _, Qd _, Qd _, Qd _, Qd _, Qd _, Qd _, Qd _, Qd _, Qd _, Qd _, Qd _, Qd _, trivial⟩ ?ob29 ?fin29
  case ob29 =>
   refine Qg (fun _ _ => Qe (Qn rfl (mvP rfl))) (Qg (fun _ _ => Qa (Qe (Qn rfl (QJ rfl)))) (Qg (fun _ _ => Qa (Qe (Qn rfl (Qy underlying119 rfl sizeOf40 rfl)))) (Qg (fun w439 x440 => ?_) ?_)))
   ·have hb0 := hb0.ext x440
    exact Qa (Qe (Qn rfl (Qm isAgg40 rfl (hb0.get 0 rfl))))
   exact Qg (fun _ _ => Qa (Qe (Qn rfl (o_pne underlying40 rfl rfl)))) (Qg (fun _ _ => Qa (Qe (Qn rfl (mvB rfl)))) (Qg (fun _ _ => Qa (Qe (Zd 5 195 rfl rfl rfl))) (Qg (fun _ _ => Qa (Qa (Qe (Zd 5 195 rfl rfl rfl)))) (Qg (fun _ _ => Qa (Qa (Qe (Zd 5 195 rfl rfl rfl)))) (Qg (fun _ _ => Qa (Qa (Qe (Zd 5 195 rfl rfl rfl)))) (Qg (fun _ _ => Qa (Qa (Qa (Qe (Zd 5 195 rfl rfl rfl))))) (Qg (fun _ _ => Qa (Qa (Qe (Zd 5 195 rfl rfl rfl)))) (Qg (fun _ _ => Qa (Qe (Zd 5 195 rfl rfl rfl))) (Qg (fun _ _ => Qa (Qa (Qe (Zd 5 195 rfl rfl rfl)))) (Qg (fun _ _ => Qa (Qa (Qa (Qa (Qe (Zd 5 195 rfl rfl rfl)))))) (Qg (fun _ _ => Qa (Qa (Qe (Qn rfl (Q0 (v := .bool _) rfl rfl))))) (Qg (fun _ _ => Qa (Qa (Qe (Qn rfl (mvB rfl))))) (Qg (fun _ _ => Qa (Qe (Zd 16 206 rfl rfl rfl))) (Qg (fun _ _ => Qa (Qa (Qa (Qe (Zd 16 206 rfl rfl rfl))))) (Qg (fun _ _ => Qa (Qe (Zd 16 206 rfl rfl rfl))) (Qg (fun _ _ => Qa (Qa (Qe (Zd 16 206 rfl rfl rfl)))) (Qg (fun _ _ => Qa (Qa (Qe (Zd 16 206 rfl rfl rfl)))) (Qg (fun _ _ => Qa (Qa (Qe (Zd 16 206 rfl rfl rfl)))) (Qg (fun _ _ => Qa (Qa (Qa (Qe (Zd 16 206 rfl rfl rfl))))) (Qg (fun _ _ => Qa (Qa (Qa (Qe (Zd 16 206 rfl rfl rfl))))) (Qg (fun _ _ => Qa (Qa (Qe (Qn rfl (Q0 (v := .bool _) rfl rfl))))) QR)))))))))))))))))))))
  case fin29 =>
   intro w508 x509
   have z510 := x509.size
   replace hX := hX.ex x509
   replace hE := Bel.ex hE x509
   replace hb6 := hb6.ext x509
   replace hwj := hwj.ext x509
   replace hsj := hsj.ext x509
   replace hb25 := hb25.ext x509
   replace hse0 := hse0.ext x509
   replace hwe := hwe.ext x509
   replace hsm := hsm.ext x509
   replace hwm := hwm.ext x509
   replace hm23 := hm23.ext x509
   replace how := (fun r hr => (how r hr).ext x509)
   refine Qa (Qa (Qa (Qa (Qa (Qa (Qa (Qa (Qa (Qa (Qa (Qa (Qa (Qa (Qa (Qa (Qa (Qa (Qa (Qa (Qa (Qa (Qa (Qa (Qa (Qa (Qe (Qc (Qq rfl (Qp (Qf (Qb ?_)))))))))))))))))))))))))))))))
   obtain ⟨n6, hn6⟩ : ∃ n, n = w508.heap.size := ⟨_, rfl⟩
   replace hse0 := hse0.mono (F' := fun g => n8 ≤ g ∧ g < n6) (fun g h1 h2 => ⟨h2, by omega⟩)
   replace hwe := WdsAt.mono hwe (F' := fun g => n8 ≤ g ∧ g < n6) (fun g h1 h2 => ⟨h2, by omega⟩)
   replace hsm := hsm.mono (F' := fun g => n8 ≤ g ∧ g < n6) (fun g h1 h2 => ⟨h2, by omega⟩)
   replace hwm := WdsAt.mono hwm (F' := fun g => n8 ≤ g ∧ g < n6) (fun g h1 h2 => ⟨h2, by omega⟩)
   have hom : OMp (fun g => n8 ≤ g ∧ g < n6) w508 m23 O := ⟨hm23, fun r hr => (how r hr).mono (fun g h1 h2 => ⟨h2, by omega⟩)⟩
   refine Rr (mvP rfl) (Qo rfl (Z1 call115) (Ok.mono (ngrow_ok _) ?_))
   rintro _ w511 ⟨⟨t233, rfl, hnn233⟩, x512⟩
   have z513 := x512.size
   replace hX := hX.ex x512
   replace hE := Bel.ex hE x512
   replace hb6 := hb6.ext x512
   replace hwj := hwj.ext x512
   replace hsj := hsj.ext x512
   replace hb25 := hb25.ext x512
   replace hse0 := hse0.ext x512
   replace hwe := hwe.ext x512
   replace hsm := hsm.ext x512
   replace hwm := hwm.ext x512
   replace hom := OMp.ext hom x512
   have hTr : TrIs (fun g => n6 ≤ g) w511 t233.b [] := TrIs.new hnn233 (fun g h => by omega)
   refine Rr (QJ rfl) (Rr (Qy underlying119 rfl sizeOf116 rfl) (Q6 (v := .pointer _) rfl sizeOf116 rfl rfl hb25 rfl rfl rfl ?_))
   intro w514 c515 hb25
   change Box _ _ _ ([.pointer _, .int _ _, .slice _ _ _, .slice _ _ _, .slice _ _ _, .map _, .pointer _, .slice _ _ _]) at hb25
   have z516 := Bel.size c515
   replace hX := Bel.out hX c515 om2
   replace hE := Bel.out hE c515 om2
   replace hb6 := hb6.keep c515 om1
   replace hwj := hwj.keep c515 om3
   replace hsj := hsj.keep c515 om3
   replace hse0 := hse0.keep c515 om3
   replace hwe := hwe.keep c515 om3
   replace hsm := hsm.keep c515 om3
   replace hwm := hwm.keep c515 om3
   replace hom := OMp.keepD hom c515 om1 om3
   replace hTr := TrIs.keepD hTr c515 om3
   refine Qc (Qf (Qf (Qb ?_)))
   obtain ⟨u1, hu1⟩ : ∃ n, n = w514.heap.size := ⟨_, rfl⟩
   replace hTr := hTr.mono (F' := fun g => n6 ≤ g ∧ g < u1) (fun g h1 h2 => ⟨h2, by omega⟩)
   refine Rr (Qy underlying39 rfl sizeOf25 rfl) (Rr (Qm isAgg25 rfl (hb6.at.get 6 rfl)) (Qo rfl (QD call10 rfl) (Ok.mono (JE _ s.gr _ (hp.ext hE).gr hs.gr) ?_)))
   rintro v238 w517 ⟨hown238, x518⟩
   have z519 := x518.size
   replace hX := hX.ex x518
   replace hE := Bel.ex hE x518
   replace hb6 := hb6.ext x518
   replace hwj := hwj.ext x518
   replace hsj := hsj.ext x518
   replace hb25 := hb25.ext x518
   replace hse0 := hse0.ext x518
   replace hwe := hwe.ext x518
   replace hsm := hsm.ext x518
   replace hwm := hwm.ext x518
   replace hom := OMp.ext hom x518
   replace hTr := TrIs.ext hTr x518
   obtain ⟨u2, hu2⟩ : ∃ n, n = w517.heap.size := ⟨_, rfl⟩
   obtain ⟨a238, c238, hv238, hs238⟩ := hown238.sl QZ
   subst hv238
   replace hs238 := hs238.mono (F' := fun g => u1 ≤ g ∧ g < u2) (fun g h1 h2 => by have := h2.1; omega)
   replace hTr := hTr.mono (F' := fun g => n6 ≤ g ∧ ¬ (u1 ≤ g ∧ g < u2)) (fun g h1 h2 => by omega)
   refine Rr (QC underlying47 rfl) (Rr QP (Qc (Qt (QU (α := Nat) [(8, 8), (16, 16), (240, 255)] (fun k3 => [(240, .int .i64 (k3 : Int)), (8, .int .i64 ((k + k1 + k2 + k3 : Nat) : Int))]) (fun k3 w' => (k3 ≤ s.gr.length) ∧ Bel False (fun g => n6 ≤ g ∧ ¬ (u1 ≤ g ∧ g < u2)) w517 w' ∧ (TrIs (fun g => n6 ≤ g ∧ ¬ (u1 ≤ g ∧ g < u2)) w' t233.b (s.gr.take k3))) (fun k3 => s.gr.length - k3) 0 ⟨rfl, rfl, trivial⟩ ⟨Nat.zero_le _, Bel.refl _ _, hTr⟩ ?_))))
   rintro k3 fb522 w521 ⟨hk3, hXL520, hTr⟩
   have z523 := Bel.size hXL520
   replace hX := Bel.out hX hXL520 om2
   replace hE := Bel.out hE hXL520 om2
   replace hb6 := hb6.keep hXL520 om1
   replace hwj := hwj.keep hXL520 om3
   replace hsj := hsj.keep hXL520 om3
   replace hb25 := hb25.keep hXL520 om1
   replace hse0 := hse0.keep hXL520 om3
   replace hwe := hwe.keep hXL520 om3
   replace hsm := hsm.keep hXL520 om3
   replace hwm := hwm.keep hXL520 om3
   replace hom := OMp.keepD hom hXL520 om1 om3
   replace hs238 := hs238.keep hXL520 om3
   refine Qf (Qb (Rr (QM rfl rfl) (Qc (Qf (Qw rfl (fun hc7 => ?_) (fun hc7 => ?_))))))
   ·have hq_k3 : k3 < s.gr.length := by have := dcT hc7; omega
    refine Qp (Qf (Qt (Qf (Qb (Rr (QW underlying47 sizeOf52 hs238 rfl rfl omg) (Rr (QY isAgg52 sizeOf52 hs238 rfl (Ze ez hq_k3)) (Zk rfl rfl zeroValue52 rfl sizeOf52 (fun _ => rfl) rfl rfl ?_)))))))
    intro b16 w524 x525 hge16 hb16
    have hlt16 := hb16.lt
    have z526 := x525.size
    replace hXL520 := Bel.ex hXL520 x525
    replace hb25 := hb25.ext x525
    replace hTr := TrIs.ext hTr x525
    refine Qc (Qf ?_)
    apply Zl (β := False) (fun _ => 0) [peqC _, peqC _, peqC _, peqC _, peqC _, peqC _, peqC _, peqC _] [0, 0, 0, 0, 0, 0, 0, 0] 8 QV (by kernel_rfl) (by kernel_rfl) rfl ⟨Qk _ _, Qk _ _, Qk _ _, Qk _ _, Qk _ _, Qk _ _, Qk _ _, Qk _ _, trivial⟩ ?ob36 ?fin36
    case ob36 =>
     refine Ql (fun w527 c529 x528 hc0530 hk531 => Qi (Qx rfl (mvP rfl))) (Ql (fun w533 c535 x534 hc0536 hk537 => Qh (Qi (Qx rfl (QJ rfl)))) (Ql (fun w539 c541 x540 hc0542 hk543 => Qh (Qi (Qx rfl (Qy underlying119 rfl sizeOf116 rfl)))) (Ql (fun w545 c547 x546 hc0548 hk549 => ?_) ?_)))
     ·replace x546 := RelG.ext0 x546
      have hb25 := hb25.ext x546
      exact Qh (Qi (Qx rfl (Qm isAgg116 rfl (hb25.at.get 6 rfl))))
     refine Ql (fun w551 c553 x552 hc0554 hk555 => Qi (Qx rfl (Qy underlying52 rfl sizeOf3 rfl))) (Ql (fun w557 c559 x558 hc0560 hk561 => ?_) ?_)
     ·replace x558 := RelG.ext0 x558
      have hb16 := hb16.ext x558
      exact Qh (Qi (Qx rfl (Qm isAgg3 rfl (hb16.at.get 0 rfl))))
     refine Ql (fun w563 c565 x564 hc0566 hk567 => Qi (Qx rfl (Qy underlying52 rfl sizeOf50 rfl))) (Ql (fun w569 c571 x570 hc0572 hk573 => ?_) ?_)
     ·replace x570 := RelG.ext0 x570
      have hb16 := hb16.ext x570
      exact Qh (Qi (Qx rfl (QF isAgg50 sizeOf50 rfl (hb16.at.sub 1 3) rfl)))
     exact Q8
    case fin36 =>
     intro w575 c577 x576 hc0578
     replace x576 := RelG.ext0 x576
     have z579 := x576.size
     replace hXL520 := Bel.ex hXL520 x576
     replace hTr := TrIs.ext hTr x576
     refine Qh (Qh (Qh (Qh (Qh (Qh (Qh (Qh (Qi (Qo rfl (Zg call116 rfl rfl rfl) (Ok.mono (nadd_ok2 t233.b (s.gr.take k3) (s.gr.getD k3 ez) (hs.gr.ve _ (gm hq_k3)) n6 u1 u2 _ hTr (by omega) (by omega)) ?_))))))))))
     rintro _ w580 ⟨rfl, hTr, x581⟩
     replace hXL520 := Bel.out hXL520 x581 om2
     refine Qc (Qb (Rr (mvI rfl) (Rr (QO rfl rfl omg) (Rr (asI rfl) (Qc (Qb (Rr (QO rfl rfl omg) (Rr (mvI rfl) (Qc ⟨k3 + 1, ⟨sT, sT, trivial⟩, oT, ⟨?_, hXL520, ?_⟩, ?_⟩)))))))))
     ·show k3 + 1 ≤ s.gr.length; omega
     ·rw [Yu hq_k3]; exact hTr
     ·omega
   have hq_k3 : ¬ k3 < s.gr.length := by have := dcF hc7; omega
   refine QN (QI (Qf (Qf (Qb ?_))))
   obtain ⟨n7, hn7⟩ : ∃ n, n = w521.heap.size := ⟨_, rfl⟩
   rw [List.take_of_length_le (by omega)] at hTr
   replace hTr := hTr.mono (F' := fun g => n6 ≤ g ∧ g < n7) (fun g h1 h2 => ⟨h2.1, by omega⟩)
   refine Rr (mvP rfl) (Qo rfl (QD call107 rfl) (Ok.mono (J0 b p s _ (hst.ext hE) (hp.ext hE)) ?_))
   rintro _ w583 ⟨rfl, x584⟩
   have z585 := x584.size
   replace hX := hX.ex x584
   replace hE := Bel.ex hE x584
   replace hb6 := hb6.ext x584
   replace hwj := hwj.ext x584
   replace hsj := hsj.ext x584
   replace hb25 := hb25.ext x584
   replace hse0 := hse0.ext x584
   replace hwe := hwe.ext x584
   replace hsm := hsm.ext x584
   replace hwm := hwm.ext x584
   replace hom := OMp.ext hom x584
   replace hTr := TrIs.ext hTr x584
   refine Rr QP (Qc (Qt ?_))
   refine QU (α := Nat × Value × Nat × Nat × List PSl) [(17, 17), (258, 276)] (fun q => [(258, .int .i64 (q.1 : Int))]) (fun q w' => (q.1 ≤ s.rs.length ∧ n7 ≤ q.2.2.1 ∧ q.2.2.2.2.length = q.1) ∧ Bel False (fun g => g = b25 ∨ n7 ≤ g) w583 w' ∧ (Box w' b25 119 (tbL (pB b) p.day (.slice ae E.length ce) (.slice am M.length cm) (.slice aj J.length cj) (.map (some m23)) (pB t233.b) q.2.1) ∧ Own encPS 1 158 (fun g => q.2.2.1 ≤ g ∧ g < q.2.2.2.1) w' q.2.1 q.2.2.2.2 ∧ q.2.2.2.1 ≤ w'.heap.size ∧ PssAt (fun g => ¬ (q.2.2.1 ≤ g ∧ g < q.2.2.2.1) ∧ (g < n0 ∨ n2 ≤ g)) w' q.2.2.2.2)) (fun q => s.rs.length - q.1) (0, nilS, n7, n7, []) ⟨rfl, trivial⟩ ⟨⟨Nat.zero_le _, Nat.le_refl _, rfl⟩, Bel.refl _ _, ⟨hb25, Own.nil _ _, by show n7 ≤ _; omega, pss_nil⟩⟩ ?_
   rintro ⟨k4, t, bt, et, G⟩ fb588 w587 ⟨⟨hk4, hbt4, hgl4⟩, hXL586, ⟨hb25, howng, het4, hwg⟩⟩
   dsimp only at *
   have z589 := Bel.size hXL586
   replace hX := Bel.out hX hXL586 om2
   replace hE := Bel.out hE hXL586 om2
   replace hb6 := hb6.keep hXL586 om1
   replace hwj := hwj.keep hXL586 om3
   replace hsj := hsj.keep hXL586 om3
   replace hse0 := hse0.keep hXL586 om3
   replace hwe := hwe.keep hXL586 om3
   replace hsm := hsm.keep hXL586 om3
   replace hwm := hwm.keep hXL586 om3
   replace hom := OMp.keepD hom hXL586 om1 om3
   replace hTr := TrIs.keepD hTr hXL586 om3
   refine Qf (Qb (Rr (QM rfl rfl) (Qc (Qf (Qw rfl (fun hc8 => ?_) (fun hc8 => ?_))))))
   ·have hq_k4 : k4 < s.rs.length := by have := dcT hc8; omega
    refine Qp (Qf (Qt (Qf (Qb (Rr (mvI rfl) (Rr (asI rfl) (Qc ?_)))))))
    obtain ⟨n5, hn5⟩ : ∃ n, n = w587.heap.size := ⟨_, rfl⟩
    replace hwg := PssAt.mono hwg (F' := fun g => (¬ (bt ≤ g ∧ g < et) ∧ (g < n0 ∨ n2 ≤ g)) ∧ g < n5) (fun g h1 h2 => ⟨h2, by omega⟩)
    apply Zl (β := False) (fun b => if (bt ≤ b ∧ b < et) ∨ n5 ≤ b then 1 else 0) [peqC _, peqC _, peqC _, peqC _, peqC _, peqC _, peqC _, peqC _, peqC _, (postOwn encP 3 50 0 (ofG s.gr ((k4 + 1 : Nat) : Int))), (postW (PlP (fun g => g < n0 ∨ n2 ≤ g) (normS (ofG s.gr ((k4 + 1 : Nat) : Int))))), (postB1 (PsE (normS (ofG s.gr ((k4 + 1 : Nat) : Int)))) (fun g => g < n0 ∨ n2 ≤ g) encPS 1 158), (postA1 (PsE (normS (ofG s.gr ((k4 + 1 : Nat) : Int)))) (fun g => g < n0 ∨ n2 ≤ g) encPS 1 158 1 G)] [0, 0, 0, 0, 0, 0, 0, 0, 0, 0, 0, 0, 1] 13 QV (by kernel_rfl) (by kernel_rfl) rfl ⟨Qk _ _, Qk _ _, Qk _ _, Qk _ _, Qk _ _, Qk _ _, Qk _ _, Qk _ _, Qk _ _, (Zc), (ZA (PlP.keepS _ _)), (Js (PsE.keep _)), (Jt (PsE.keep _)), trivial⟩ ?ob42 ?fin42
    case ob42 =>
     refine Ql (fun w590 c592 x591 hc0593 hk594 => Qi (Qx rfl (mvP rfl))) (Ql (fun w596 c598 x597 hc0599 hk600 => Qi (Qx rfl (mvP rfl))) (Ql (fun w602 c604 x603 hc0605 hk606 => Qh (Qi (Qx rfl (QJ rfl)))) (Ql (fun w608 c610 x609 hc0611 hk612 => Qh (Qi (Qx rfl (Qy underlying119 rfl sizeOf117 rfl)))) (Ql (fun w614 c616 x615 hc0617 hk618 => ?_) ?_))))
     ·replace x615 := Bel.mono x615 (D' := fun g => (bt ≤ g ∧ g < et) ∨ n5 ≤ g) omC
      have z619 := x615.size
      have hb25 := hb25.keep x615 om1
      exact Qh (Qi (Qx rfl (Qm isAgg117 rfl (hb25.at.get 7 rfl))))
     refine Ql (fun w620 c622 x621 hc0623 hk624 => Qi (Qx rfl (Qy underlying39 rfl sizeOf25 rfl))) (Ql (fun w626 c628 x627 hc0629 hk630 => ?_) ?_)
     ·replace x627 := Bel.mono x627 (D' := fun g => (bt ≤ g ∧ g < et) ∨ n5 ≤ g) omC
      have z631 := x627.size
      have hb6 := hb6.keep x627 om1
      exact Qh (Qi (Qx rfl (Qm isAgg25 rfl (hb6.at.get 6 rfl))))
     refine Ql (fun w632 c634 x633 hc0635 hk636 => Qi (Qx rfl (mvI rfl))) (Ql (fun w638 c640 x639 hc0641 hk642 => Qh (Qi (Qx rfl (ZB (p := k4) (b := 1) rfl rfl (by omega))))) (Ql (fun w644 c646 x645 hc0647 hk648 => ?_) ?_))
     ·replace x645 := Bel.mono x645 (D' := fun g => (bt ≤ g ∧ g < et) ∨ n5 ≤ g) omC
      have z649 := x645.size
      have hE := Bel.out hE x645 om2
      exact Qh (Qh (Qi (Vm rfl (QB call118 rfl rfl) (gof_ok _ s.gr _ (hp.ext hE).gr hs.gr ((k4 + 1 : Nat) : Int)))))
     refine Ql (fun w650 c652 x651 hc0653 hk654 => ?_) ?_
     ·replace x651 := Bel.mono x651 (D' := fun g => (bt ≤ g ∧ g < et) ∨ n5 ≤ g) omC
      have z655 := x651.size
      refine Qz (fun v270 hv270 => Qz (fun v270 hv270 => Qi ?_))
      exact Yt (S := PlP (fun g => g < n0 ∨ n2 ≤ g) (normS (ofG s.gr ((k4 + 1 : Nat) : Int)))) rfl (QD call117 rfl) ((pnormal_ok _ _ _ (Own.trd hv270 encP_ok) (by have := ofG_len2 hs.gr ((k4 + 1 : Nat) : Int); omega) (ofG_ok hs.gr)).mono (fun v w2 ⟨h, x⟩ => let ⟨a, c, e, hs⟩ := h.sl encP_ok; ⟨⟨fun g hg => Or.inr (by have := hg.1; omega), a, c, e, hs⟩, x⟩))
     refine Ql (fun w656 c658 x657 hc0659 hk660 => ?_) ?_
     ·refine Qz (fun v271 hv271 => ?_)
      obtain ⟨F271, hF271, hP271, a271, c271, rfl, hq271⟩ := hv271
      exact Qi ((Jw (vs := [.slice _ _ _]) [(⟨a271, c271, (normS (ofG s.gr ((k4 + 1 : Nat) : Int)))⟩ : PSl)] Yn el_ps rfl rfl ⟨rfl, trivial⟩ rfl rfl rfl rfl).mono3 (fun v w' c' hx ⟨a, h1, h2⟩ => ⟨a, _, h1, EZ.step (PsE.keep _) ⟨F271, hF271, hP271, rfl, hq271⟩ hx, h2⟩))
     refine Ql (fun w662 c664 x663 hc0665 hk666 => ?_) ?_
     ·replace x663 := Bel.mono x663 (D' := fun g => (bt ≤ g ∧ g < et) ∨ n5 ≤ g) omC
      refine Qh (Qz (fun v272 hv272 => ?_))
      obtain ⟨a272, z272, rfl, hz272, ho272⟩ := hv272
      refine Qz (fun v271 hv271 => ?_)
      obtain ⟨F271, hF271, hP271, a271, c271, rfl, hq271⟩ := hv271
      refine Qi ?_
      exact (Jg (by decide) Yn el_ps rfl rfl (((howng.mono (D' := fun g => (bt ≤ g ∧ g < et) ∧ g < n5) (fun g h1 h2 => ⟨h2, by omega⟩)).ext (Bel.exV x663 (fun b hb hd => hk666 1 (by decide) (by kernel_rfl) b hb (if_pos hd)))).mono (fun g hg h => (hc0665 g (by omega)).trans (if_pos (Or.inl h.1)))) (Own.slA ho272 Yn) rfl (by simp only [List.length_singleton]; omega)).mono3 (fun v w' c' hx h => ⟨z272, EZ.step (PsE.keep _) hz272 hx, h⟩)
     exact Q8
    case fin42 =>
     intro w668 c670 x669 hc0671
     replace x669 := Bel.mono x669 (D' := fun g => (bt ≤ g ∧ g < et) ∨ n5 ≤ g) omC
     have z672 := x669.size
     replace hXL586 := Bel.out hXL586 x669 om2
     replace hb25 := hb25.keep x669 om1
     replace hwg := hwg.keep x669 om3
     refine Qh (Qh (Qh (Qh (Qh (Qh (Qh (Qh (Qh (Qz (fun v270 hv270 => Qz (fun v271 hv271 => ?_)))))))))))
     obtain ⟨F271, hF271, hP271, a271, c271, rfl, hq271⟩ := hv271
     refine Qz (fun v272 hv272 => ?_)
     obtain ⟨a272, z272, rfl, hz272, ho272⟩ := hv272
     refine Qz (fun v273 hv273 => Qi ?_)
     obtain ⟨z273, ⟨F273, hF273, hP273, hzx, hz273⟩, ho273⟩ := hv273
     change Own _ _ _ _ _ _ _ at ho273
     have hown1 := Own.mono ho273 (D' := fun g => c670 g = 1 ∧ ((bt ≤ g ∧ g < et) ∨ n5 ≤ g)) (fun g h1 h2 => ⟨h2, Classical.byContradiction fun hn => by have hlt : g < n5 := Nat.lt_of_not_le (fun hq => hn (Or.inr hq)); have h : _ = (if (bt ≤ g ∧ g < et) ∨ n5 ≤ g then 1 else 0) := hc0671 g (by omega); rw [h2, if_neg hn] at h; cases h⟩)
     obtain ⟨bt2, et2, hiv, het2, hown2, hcz⟩ := ivE hown1 n7 (by omega)
     have hw2 := pss_snoc (PssAt.mono hwg (F' := fun g => ¬ (bt2 ≤ g ∧ g < et2) ∧ (g < n0 ∨ n2 ≤ g)) (fun g h1 h2 => ⟨hcz g ((hc0671 g (by omega)).trans (if_neg (by omega))), h2.1.2⟩)) (hz273.mono (fun g h1 h2 => ⟨hcz g (hF273 g h2).2, hP273 g h2⟩))
     obtain ⟨a273, c273, hva273, -⟩ := hown2.sl Yn
     subst hva273
     have howng := hown2
     replace hwg := hw2
     refine Rr (QJ rfl) (Rr (Qy underlying119 rfl sizeOf117 rfl) (Q6 (v := .slice _ _ _) rfl sizeOf117 rfl rfl hb25 rfl rfl rfl ?_))
     intro w673 c674 hb25
     have z675 := Bel.size c674
     replace hXL586 := Bel.out hXL586 c674 om2
     replace hwg := hwg.keep c674 om3
     replace howng := howng.keepD c674 om3
     refine Qc (Qb (Rr (QO rfl rfl omg) (Rr (mvI rfl) (Qc ⟨(k4 + 1, .slice a273 (G ++ [z273]).length c273, bt2, et2, G ++ [z273]), ⟨sT, trivial⟩, oT, ⟨?_, hXL586, ?_⟩, ?_⟩))))
     ·exact ⟨by show k4 + 1 ≤ s.rs.length; omega, by show n7 ≤ bt2; omega, by simp [hgl4]⟩
     ·exact ⟨hb25, howng, by show et2 ≤ _; omega, hwg⟩
     ·show s.rs.length - (k4 + 1) < s.rs.length - k4; omega
   have hq_k4 : ¬ k4 < s.rs.length := by have := dcF hc8; omega
   refine QN (QI (Qf (Qb (Rr (mvP rfl) (Rr (mvI rfl) (Rr (asP rfl) (Rr (asI rfl) (Qc (Qu ⟨_, QT rfl rfl rfl, ?_⟩)))))))))
   obtain ⟨ag, cg, ht4, hsg⟩ := howng.sl Yn
   subst ht4
   have hk1e : k1 = s.us.length := by omega
   have hk2e : k2 = s.ss.length := by omega
   rw [hk1e] at hex
   rw [hk2e] at hosp
   exact ⟨⟨b25, _, rfl, ⟨pB b, p.day, J, E, M, O, s.gr, G⟩, ⟨ae, ce, am, cm, aj, cj, m23, t233.b, ag, cg⟩, ⟨hb25.at, hse0.top, WdsAt.top hwe, hsm.top, WdsAt.top hwm, hsj.top, WdsAt.top hwj, hom.mono (fun _ h _ => h), hTr.mono (fun _ h _ => h), hsg.top, PssAt.top hwg⟩, rfl, rfl, rfl, hjx, hex, hmx, l163, hl163, hosp⟩, hX⟩
