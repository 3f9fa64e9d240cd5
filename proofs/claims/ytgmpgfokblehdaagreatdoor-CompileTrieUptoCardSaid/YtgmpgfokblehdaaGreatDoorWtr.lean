/- Walks: what functions return. -/
import Derived.Test.YtgmpgfokblehdaaGreatDoorTp
import Derived.Test.YtgmpgfokblehdaaGreatDoorWgr
set_option linter.unusedVariables false
set_option linter.unusedSimpArgs false
set_option linter.unnecessarySimpa false
namespace Go.Proofs.YtgmpgfokblehdaaGreatDoor
open Go Go.Lx Go.RowKit Tryz
set_option maxRecDepth 100000
theorem pnames_ok (p : Str) (hp : p.length ≤ 1100000) (w : World) : Ok Tryz.prog 52 #[str p] w fun v w' => (∃ a c, v = .slice a (splitL p).length c ∧ Sl encS 1 (Fsh w w') w' a c (splitL p)) ∧ Ext False w w' := by
 refine Qv 11 func52 rfl rfl rfl ?_
 have hX := xRf w
 refine Qf (Qb (Rr Qj (Qc (Qf (Qb (Rr (mvT rfl) ?_))))))
 refine Qo rfl (QD call119 rfl) (Ok.mono (JI (False) _ (by first | assumption | omega | (simp; done) | (simp; omega) | (simp at *; omega)) _) ?_)
 rintro _ w1 ⟨a7, c7, rfl, hs7, x2⟩
 replace hX := hX.ex x2
 exact Rr (QG (v := .tuple _) rfl) (Rr (QE rfl rfl) (Rr (QE rfl rfl) (Rr (asS rfl) (Rr (asB rfl) (Qc (Qf (Qb (Rr (mvS rfl) (Rr (asS rfl) (Qc (Qu ⟨_, Qr rfl rfl, ⟨⟨_, _, rfl, hs7⟩, hX⟩⟩)))))))))))
theorem ngrow_ok (w : World) : Ok Tryz.prog 115 #[] w fun v w' => (∃ t : TN, v = pB t.b ∧ NewN w.heap.size w' t) ∧ Ext False w w' := by
 refine Qv 6 func115 rfl rfl rfl ?_
 have hX := xRf w
 refine Qf (Qb (Rr Qj (Qc (Qf (Qb (Rg_wmk rfl ?_))))))
 intro m1 w1 x2 hge1 hlt1 hm1
 replace hX := hX.ex x2
 refine Rg_wmk rfl ?_
 intro m2 w4 x5 hge2 hlt2 hm2
 replace hX := hX.ex x5
 replace hm1 := hm1.ext x5
 refine Rg_tmk rfl ?_
 intro m3 w7 x8 hge3 hlt3 hm3
 replace hX := hX.ex x8
 replace hm1 := hm1.ext x8
 replace hm2 := hm2.ext x8
 refine Rr (Q2 (cells := [.map (some m1), .map (some m2), .map (some m3)]) (vs := [(0, .map _), (1, .map _), (2, .map _)]) rfl (by kernel_rfl)) (QH rfl (QX (v := .agg _) rfl) ?_)
 intro b5 w10 x11 hge5 hb5
 replace hX := hX.ex x11
 replace hm1 := hm1.ext x11
 replace hm2 := hm2.ext x11
 replace hm3 := hm3.ext x11
 refine Rr (asP rfl) (Qc (Qu ⟨_, Qr rfl rfl, ?_⟩))
 change Box _ _ _ [.map (some m1), .map (some m2), .map (some m3)] at hb5
 exact ⟨⟨⟨b5, m1, m2, m3⟩, rfl, by show w.heap.size ≤ b5; omega, fun i => by rcases i with _ | _ | i <;> simp only [TN.mp] <;> omega, hb5.at, hm1, hm2, hm3, by show m1 < m2; omega, by show m2 < m3; omega⟩, hX⟩
set_option maxHeartbeats 2000000 in
theorem nadd_tr (nd0 : List Str → TN) (m : List Ent) (e : Ent) (hv : Ve e) (n u1 u2 : Nat) (w : World) (hT : Tr (fun g => n ≤ g ∧ ¬ (u1 ≤ g ∧ g < u2)) w (exN m) (plW m) (dpW m) nd0) (hn : n ≤ w.heap.size) (hu : u2 ≤ w.heap.size) : Ok Tryz.prog 116 #[pB (nd0 []).b, .int .i64 e.r, .agg (encP e.p).toArray] w fun v w' => v = .tuple #[] ∧ (∃ nd, (nd []).b = (nd0 []).b ∧ Tr (fun g => n ≤ g ∧ ¬ (u1 ≤ g ∧ g < u2)) w' (exN (m ++ [e])) (plW (m ++ [e])) (dpW (m ++ [e])) nd) ∧ Bel False (fun g => n ≤ g ∧ ¬ (u1 ≤ g ∧ g < u2)) w w' := by
 obtain ⟨s1, hs1⟩ : ∃ n, n = w.heap.size := ⟨_, rfl⟩
 replace hT := hT.mono (F' := fun g => (n ≤ g ∧ ¬ (u1 ≤ g ∧ g < u2)) ∧ g < s1) (fun g h1 h2 => ⟨h2, by omega⟩)
 have hsp := check_path hv.2.2.2
 have hpl := JK e.p.path
 refine Qv 54 func116 rfl rfl rfl ?_
 have hX : Bel False ((fun g => n ≤ g ∧ ¬ (u1 ≤ g ∧ g < u2))) w w := Bel.refl _ _
 refine Qf (Qb (QH rfl (QX (v := .agg _) rfl) ?_))
 intro b5 w1 x2 hge5 hb5
 have hlt5 := hb5.lt
 have z3 := x2.size
 replace hX := hX.ex x2
 replace hT := hT.ext x2
 refine Qc (Qf (Qf (Qb (Rr (Qy underlying50 rfl sizeOf9 rfl) (Rr (Qm isAgg9 rfl (hb5.at.get 1 rfl)) (Qo rfl (QD call52 rfl) (Ok.mono (pnames_ok _ hv.2.2.1.2 _) ?_)))))))
 rintro _ w4 ⟨⟨a12, c12, rfl, hs12⟩, x5⟩
 have z6 := x5.size
 replace hX := hX.ex x5
 replace hT := hT.ext x5
 replace hb5 := hb5.ext x5
 obtain ⟨s2, hs2⟩ : ∃ n, n = w4.heap.size := ⟨_, rfl⟩
 replace hs12 := hs12.mono (F' := fun g => s1 ≤ g ∧ g < s2) (fun g h1 h2 => by have := h2.1; omega)
 replace hT := hT.mono (F' := (fun g => (n ≤ g ∧ ¬ (u1 ≤ g ∧ g < u2)) ∧ ¬ (s1 ≤ g ∧ g < s2))) (fun g h1 h2 => by omega)
 refine Rr (QC underlying23 rfl) (Rr QP (Qc (Qt (QU (α := Nat × (List Str → TN)) [(0, 0), (7, 8), (14, 34)] (fun q => [(14, .int .i64 (q.1 : Int)), (0, pB (q.2 ((splitL e.p.path).take q.1)).b)]) (fun q w' => (q.1 ≤ (splitL e.p.path).length) ∧ Bel False (fun g => (n ≤ g ∧ ¬ (u1 ≤ g ∧ g < u2)) ∧ ¬ (s1 ≤ g ∧ g < s2)) w4 w' ∧ (Tr (fun g => (n ≤ g ∧ ¬ (u1 ≤ g ∧ g < u2)) ∧ ¬ (s1 ≤ g ∧ g < s2)) w' (exK m (splitL e.p.path) q.1) (plW m) (dpW m) q.2 ∧ (q.2 []).b = (nd0 []).b)) (fun q => (splitL e.p.path).length - q.1) (0, nd0) ⟨rfl, rfl, trivial⟩ ⟨Nat.zero_le _, Bel.refl _ _, ⟨hT.congr (fun z => exK_zero) (fun _ _ _ => rfl) (fun _ _ _ => rfl), rfl⟩⟩ ?_))))
 rintro ⟨k, nd⟩ fb9 w8 ⟨hk, hXL7, ⟨hT, hrt⟩⟩
 dsimp only at *
 have z10 := Bel.size hXL7
 replace hX := Bel.out hX hXL7 (fun g h1 h2 => by first | exact h2 | exact h2.1 | (cases h2; omega) | omega)
 replace hb5 := hb5.keep hXL7 om1
 replace hs12 := hs12.keep hXL7 om3
 refine Qf (Qb (Rr (QM rfl rfl) (Qc (Qf (Qw rfl (fun hc1 => ?_) (fun hc1 => ?_))))))
 ·have hk1 : k < (splitL e.p.path).length := by have := dcT hc1; omega
  refine Qp (Qf (Qt (Qf (Qb (Rr (QW underlying23 sizeOf9 hs12 rfl rfl omg) (Rr (Zx isAgg9 hs12 rfl rfl (Ze [] hk1) rfl) (Rr (asT rfl) (Qc (Qf (Qb ?_))))))))))
  have hXk : exK m (splitL e.p.path) k ((splitL e.p.path).take k) := .inr ⟨k, Nat.le_refl _, rfl⟩
  have hat := hT.nat _ hXk
  have hfb := hT.fb _ hXk
  have hfp := hfb.2 0
  have hfd := hfb.2 1
  have hfq := hfb.2 2
  simp only [TN.mp] at hfp hfd hfq
  obtain ⟨M, hM, hMk⟩ := hT.be _ hXk
  replace hMk := hMk
  have hMx := hMk ((splitL e.p.path).getD k [])
  rw [← J9 hk1] at hMx
  refine Rr (mvP rfl) (Rr (QJ rfl) (Rr (Qy underlying123 rfl sizeOf121 rfl) (Rr (Qm isAgg121 rfl (hat.get 2 rfl)) (Rr (mvT rfl) ((Decidable.em ((getM M ((splitL e.p.path).getD k [])).isSome = true)).elim (fun hex => ?_) (fun hex => ?_))))))
  ·have hex2 : exK m (splitL e.p.path) k ((splitL e.p.path).take (k + 1)) := Classical.byContradiction fun hn => by rw [hMx.2 hn] at hex; cases hex
   have hgy : (getM M ((splitL e.p.path).getD k [])).getD none = some (nd ((splitL e.p.path).take (k + 1))).b := by rw [hMx.1 hex2]; rfl
   refine Rr (o_tlook underlying121 underlying9 zeroValue116 hM rfl rfl hgy) (Rr (QL (v := (pB (nd ((splitL e.p.path).take (k + 1))).b)) rfl) (Qc (Qf (Qf (Qb (Rr (QG (v := (pB (nd ((splitL e.p.path).take (k + 1))).b)) rfl) (Rr (Zi underlying116 rfl rfl) (Qc (Qq rfl (Qp (Qb (Rr (QG (v := (pB (nd ((splitL e.p.path).take (k + 1))).b)) rfl) (Rr (QL (v := (pB (nd ((splitL e.p.path).take (k + 1))).b)) rfl) (Qc (Qb (Rr (QO rfl rfl omg) (Rr (mvI rfl) (Qc ⟨(k + 1, nd), ⟨sT, ?_, trivial⟩, oT, ⟨?_, hXL7, ?_⟩, ?_⟩))))))))))))))))))
   ·first | rfl | exact sT
   ·show k + 1 ≤ (splitL e.p.path).length; omega
   ·exact ⟨hT.congr (fun z => exK_same hex2) (fun _ _ _ => rfl) (fun _ _ _ => rfl), hrt⟩
   ·show (splitL e.p.path).length - (k + 1) < (splitL e.p.path).length - k; omega
  have hex2 : ¬ exK m (splitL e.p.path) k ((splitL e.p.path).take (k + 1)) := fun h => hex (by rw [hMx.1 h]; rfl)
  have hgy : (getM M ((splitL e.p.path).getD k [])).getD none = none := by rw [hMx.2 hex2]; rfl
  refine Rr (o_tlook underlying121 underlying9 zeroValue116 hM rfl rfl hgy) (Rr (QL (v := (.pointer none)) rfl) (Qc (Qf (Qf (Qb (Rr (QG (v := (.pointer none)) rfl) (Rr (Zi underlying116 rfl rfl) (Qc (Za rfl (Qf (Qb ?_)))))))))))
  have hTA := hT
  have hnA : s2 ≤ w8.heap.size := by omega
  have hE : Bel False NoB w8 w8 := Bel.refl _ _
  refine Qo rfl (Z1 call115) (Ok.mono (ngrow_ok _) ?_)
  rintro _ w11 ⟨⟨t26, rfl, hnn26⟩, x12⟩
  have z13 := x12.size
  replace hXL7 := Bel.ex hXL7 x12
  replace hT := hT.ext x12
  replace hat := hat.ext x12
  replace hM := hM.ext x12
  replace hE := Bel.ex hE x12
  refine Rr (asP rfl) (Qc (Qb (Rr (mvP rfl) (Rr (QJ rfl) (Rr (Qy underlying123 rfl sizeOf121 rfl) (Rr (Qm isAgg121 rfl (hat.get 2 rfl)) (Rr (mvT rfl) (Rr (mvP rfl) ?_))))))))
  have hE0 := hE
  have hnn260 := hnn26
  have hMp0 := hM
  refine Rg_tput rfl underlying121 underlying9 rfl rfl rfl hM ?_
  intro w14 x15 hM
  have z16 := x15.size
  replace hXL7 := Bel.out hXL7 x15 (fun g h1 h2 => by first | exact h2 | exact h2.1 | (cases h2; omega) | omega)
  replace hT := hTA.grow (n := _) (Nat.le_refl _) hXk (fun h => hex2 (J9 hk1 ▸ h)) hE0 hnn260 (fun g h => by omega) hMk hMp0 x15 hM (X' := exK m (splitL e.p.path) (k + 1)) (fun z => by rw [← J9 hk1]; exact exK_succ) (fun a => by rw [← J9 hk1]; exact plW_new (fun h => hex2 (.inl h)) a) (fun a => by rw [← J9 hk1]; exact dpW_new (fun h => hex2 (.inl h)) a)
  refine Qc (Qb (Rr (mvP rfl) (Rr (asP rfl) (Qc (Qb (Rr (QO rfl rfl omg) (Rr (mvI rfl) (Qc ⟨(k + 1, fun z => if z = ((splitL e.p.path).take k) ++ [((splitL e.p.path).getD k [])] then t26 else nd z), ⟨sT, ?_, trivial⟩, oT, ⟨?_, hXL7, ?_⟩, ?_⟩))))))))
  ·show _ = pB ((fun z => if z = _ then t26 else nd z) (List.take (k + 1) _)).b
   simp only [J9 hk1, if_true]
   first | rfl | exact sT
  ·show k + 1 ≤ (splitL e.p.path).length; omega
  ·exact ⟨hT, by simpa using hrt⟩
  ·show (splitL e.p.path).length - (k + 1) < (splitL e.p.path).length - k; omega
 have hk1 : ¬ k < (splitL e.p.path).length := by have := dcF hc1; omega
 refine QN (QI (Qf (Qb ?_)))
 have hXk : exK m (splitL e.p.path) k ((splitL e.p.path).take k) := .inr ⟨k, Nat.le_refl _, rfl⟩
 have hat := hT.nat _ hXk
 have hfb := hT.fb _ hXk
 have hfp := hfb.2 0
 have hfd := hfb.2 1
 have hfq := hfb.2 2
 simp only [TN.mp] at hfp hfd hfq
 have hkl : ((splitL e.p.path).take k) = (splitL e.p.path) := List.take_of_length_le (by omega)
 refine Rr (mvP rfl) (Rr (QJ rfl) (Rr (Qy underlying123 rfl sizeOf120 rfl) (Rr (Qm isAgg120 rfl (hat.get 0 rfl)) (Rr (QL (v := .map _) rfl) (Qc (Qf (Qf (Qb (Rr (Qy underlying50 rfl sizeOf4 rfl) (Rr (Qm isAgg4 rfl (hb5.at.get 2 rfl)) (Qc (Qw rfl (fun hc4 => ?_) (fun hc4 => ?_)))))))))))))
 ·have hdp := hc4
  refine Qb (Rr (mvP rfl) (Rr (QJ rfl) (Rr (Qy underlying123 rfl sizeOf120 rfl) (Rr (Qm isAgg120 rfl (hat.get 1 rfl)) (Rr (QL (v := .map _) rfl) (Qc ?_))))))
  obtain ⟨M, hM, hMv, hMs⟩ := hT.dp _ hXk
  apply Q3 (β := False) [peq _, peq _, peq _, peq _, peq _, peq _, peq _, peq _, (postSV (fun g => (n ≤ g ∧ ¬ (u1 ≤ g ∧ g < u2)) ∧ ¬ (s1 ≤ g ∧ g < s2)) (((getM M e.p.act).getD svz).x ||| oneW e.r.toNat))] 9 QV (by kernel_rfl) rfl ⟨Qd _, Qd _, Qd _, Qd _, Qd _, Qd _, Qd _, Qd _, (Zf _ _), trivial⟩ ?ob13 ?fin13
  case ob13 =>
   refine Qg (fun _ _ => Qe (Qn rfl (QG (v := .map _) rfl))) (Qg (fun _ _ => Qe (Qn rfl (Qy underlying50 rfl sizeOf9 rfl))) (Qg (fun w23 x24 => ?_) ?_))
   ·have hb5 := hb5.ext x24
    exact Qa (Qe (Qn rfl (Qm isAgg9 rfl (hb5.at.get 0 rfl))))
   refine Qg (fun _ _ => Qe (Qn rfl (QG (v := .map _) rfl))) (Qg (fun _ _ => Qe (Qn rfl (Qy underlying50 rfl sizeOf9 rfl))) (Qg (fun w32 x33 => ?_) ?_))
   ·have hb5 := hb5.ext x33
    exact Qa (Qe (Qn rfl (Qm isAgg9 rfl (hb5.at.get 0 rfl))))
   refine Qg (fun w35 x36 => ?_) ?_
   ·have hM := hM.ext x36
    exact Qa (Qa (Qe (Qn rfl (Y7 underlying120 underlying9 zeroValue32 hM rfl rfl rfl))))
   refine Qg (fun _ _ => Qe (Qn rfl (mvI rfl))) (Qg (fun w41 x42 => ?_) ?_)
   ·have z43 := x42.size
    have hMs := (fun k => (hMs k).ext x42)
    refine Qa (Qa (Qe ?_))
    exact ZK rfl (QB call55 rfl rfl) ((bwithI_ok _ ((getM M e.p.act).getD svz) _ (hMs e.p.act) e.r hv.1 hv.2.1).mono (fun v w2 ⟨a, c, e, h, x⟩ => ⟨x, a, c, e, h.mono (fun g h1 h2 => by exact h2.elim id (fun h2 => by have := h2.1; omega))⟩))
   exact QR
  case fin13 =>
   intro w44 x45
   replace hX := hX.ex x45
   replace hT := hT.ext x45
   replace hM := hM.ext x45
   replace hMs := (fun k => (hMs k).ext x45)
   refine Qa (Qa (Qa (Qa (Qa (Qa (Qa (Qa (QQ (fun v53 hv53 => ?_)))))))))
   obtain ⟨a53, c53, rfl, hq53⟩ := hv53
   refine Qe ?_
   have hq530 := hq53
   have hMs0 := hMs
   have hMp0 := hM
   refine Rg_wput rfl underlying120 underlying9 rfl rfl rfl hM ?_
   intro w47 x48 hM
   replace hX := Bel.out hX x48 (fun g h1 h2 => by first | exact h2 | exact h2.1 | (cases h2; omega) | omega)
   replace hT := hT.putD hXk (γ := False) (Bel.refl _ _) hq530 hMv hMs0 hMp0 x48 hM (D' := fun z a => dpW (m ++ [e]) z a) (fun z a => by rw [dpW_put (by simpa using hdp), hkl, hMv, hkl])
   refine Qc ⟨_, YZ rfl, ?_⟩
   have hT2 := (hT.congr (X' := exN (m ++ [e])) (P' := plW (m ++ [e])) (D' := dpW (m ++ [e])) (fun z => (exK_end (by omega)).symm) (fun z a _ => plW_deep (by simpa using hdp) z a) (fun _ _ _ => rfl)).mono (F' := fun g => n ≤ g ∧ ¬ (u1 ≤ g ∧ g < u2)) (fun g h1 h2 => h2.1)
   exact ⟨rfl, ⟨nd, hrt, hT2⟩, hX⟩
 have hdp := hc4
 refine Qp ?_
 obtain ⟨M, hM, hMv, hMs⟩ := hT.pl _ hXk
 apply Q3 (β := False) [peq _, peq _, peq _, peq _, peq _, peq _, peq _, peq _, (postSV (fun g => (n ≤ g ∧ ¬ (u1 ≤ g ∧ g < u2)) ∧ ¬ (s1 ≤ g ∧ g < s2)) (((getM M e.p.act).getD svz).x ||| oneW e.r.toNat))] 9 QV (by kernel_rfl) rfl ⟨Qd _, Qd _, Qd _, Qd _, Qd _, Qd _, Qd _, Qd _, (Zf _ _), trivial⟩ ?ob13 ?fin13
 case ob13 =>
  refine Qg (fun _ _ => Qe (Qn rfl (QG (v := .map _) rfl))) (Qg (fun _ _ => Qe (Qn rfl (Qy underlying50 rfl sizeOf9 rfl))) (Qg (fun w56 x57 => ?_) ?_))
  ·have hb5 := hb5.ext x57
   exact Qa (Qe (Qn rfl (Qm isAgg9 rfl (hb5.at.get 0 rfl))))
  refine Qg (fun _ _ => Qe (Qn rfl (QG (v := .map _) rfl))) (Qg (fun _ _ => Qe (Qn rfl (Qy underlying50 rfl sizeOf9 rfl))) (Qg (fun w65 x66 => ?_) ?_))
  ·have hb5 := hb5.ext x66
   exact Qa (Qe (Qn rfl (Qm isAgg9 rfl (hb5.at.get 0 rfl))))
  refine Qg (fun w68 x69 => ?_) ?_
  ·have hM := hM.ext x69
   exact Qa (Qa (Qe (Qn rfl (Y7 underlying120 underlying9 zeroValue32 hM rfl rfl rfl))))
  refine Qg (fun _ _ => Qe (Qn rfl (mvI rfl))) (Qg (fun w74 x75 => ?_) ?_)
  ·have z76 := x75.size
   have hMs := (fun k => (hMs k).ext x75)
   refine Qa (Qa (Qe ?_))
   exact ZK rfl (QB call55 rfl rfl) ((bwithI_ok _ ((getM M e.p.act).getD svz) _ (hMs e.p.act) e.r hv.1 hv.2.1).mono (fun v w2 ⟨a, c, e, h, x⟩ => ⟨x, a, c, e, h.mono (fun g h1 h2 => by exact h2.elim id (fun h2 => by have := h2.1; omega))⟩))
  exact QR
 case fin13 =>
  intro w77 x78
  replace hX := hX.ex x78
  replace hT := hT.ext x78
  replace hM := hM.ext x78
  replace hMs := (fun k => (hMs k).ext x78)
  refine Qa (Qa (Qa (Qa (Qa (Qa (Qa (Qa (QQ (fun v53 hv53 => ?_)))))))))
  obtain ⟨a53, c53, rfl, hq53⟩ := hv53
  refine Qe ?_
  have hq530 := hq53
  have hMs0 := hMs
  have hMp0 := hM
  refine Rg_wput rfl underlying120 underlying9 rfl rfl rfl hM ?_
  intro w80 x81 hM
  replace hX := Bel.out hX x81 (fun g h1 h2 => by first | exact h2 | exact h2.1 | (cases h2; omega) | omega)
  replace hT := hT.putP hXk (γ := False) (Bel.refl _ _) hq530 hMv hMs0 hMp0 x81 hM (P' := fun z a => plW (m ++ [e]) z a) (fun z a => by rw [plW_put (by simpa using hdp), hkl, hMv, hkl])
  refine Qc ⟨_, YZ rfl, ?_⟩
  have hT2 := (hT.congr (X' := exN (m ++ [e])) (P' := plW (m ++ [e])) (D' := dpW (m ++ [e])) (fun z => (exK_end (by omega)).symm) (fun _ _ _ => rfl) (fun z a _ => dpW_plain (by simpa using hdp) z a)).mono (F' := fun g => n ≤ g ∧ ¬ (u1 ≤ g ∧ g < u2)) (fun g h1 h2 => h2.1)
  exact ⟨rfl, ⟨nd, hrt, hT2⟩, hX⟩
theorem nadd_ok2 (b : Nat) (m : List Ent) (e : Ent) (hv : Ve e) (n u1 u2 : Nat) (w : World) (hT : TrIs (fun g => n ≤ g ∧ ¬ (u1 ≤ g ∧ g < u2)) w b m) (hn : n ≤ w.heap.size) (hu : u2 ≤ w.heap.size) : Ok Tryz.prog 116 #[pB b, .int .i64 e.r, .agg (encP e.p).toArray] w fun v w' => v = .tuple #[] ∧ TrIs (fun g => n ≤ g ∧ ¬ (u1 ≤ g ∧ g < u2)) w' b (m ++ [e]) ∧ Bel False (fun g => n ≤ g ∧ ¬ (u1 ≤ g ∧ g < u2)) w w' := by
 obtain ⟨nd0, rfl, hT⟩ := hT
 exact nadd_tr nd0 m e hv n u1 u2 w hT hn hu
set_option maxHeartbeats 2000000 in
theorem tcov_ok (b r : Nat) (o e1 e2 e3 e4 e5 : Value) (i : Int) (F0 : Nat → Prop) (m : List Ent) (hm : OkG m) (a s : Str) (ha : a.length ≤ 1100000) (hs : s.length ≤ 1100000) (w : World) (hb : At w b 0 [o, .int .i64 i, e1, e2, e3, e4, pB r, e5]) (hT : TrIs F0 w r m) : Ok Tryz.prog 14 #[pB b, str a, str s] w fun v w' => ∃ x c, v = .agg (encSV ⟨x, c, covW m a s⟩).toArray ∧ Sl encU 1 (Lt w'.heap.size) w' x c (wl (covW m a s)) ∧ Ext False w w' := by
 obtain ⟨nd, rfl, hT⟩ := hT
 replace hT := hT.mono (F' := fun g => g < w.heap.size) (fun g h1 h2 => h1)
 have hbl := hb.lt
 have hsl := JK s
 refine Qv 62 func14 rfl rfl rfl ?_
 have hX := xRf w
 refine Qf (Qb (QH rfl (Q4 zeroValue32) ?_))
 intro b6 w1 x2 hge6 hb6
 have hlt6 := hb6.lt
 have z3 := x2.size
 replace hX := hX.ex x2
 replace hb := hb.ext x2
 replace hT := hT.ext x2
 refine Qc (Qf (Qf (Qb (Rr (mvP rfl) (Rr (Zi underlying57 rfl rfl) (Rr (mvB rfl) (QA 2 13 rfl rfl (Rr (mvT rfl) (QA 2 13 rfl rfl (Qo rfl (QD call51 rfl) (Ok.mono (J1 (False) _ hs _) ?_)))))))))))
 rintro _ w4 ⟨rfl, x5⟩
 have z6 := x5.size
 replace hX := hX.ex x5
 replace hb := hb.ext x5
 replace hT := hT.ext x5
 replace hb6 := hb6.ext x5
 refine QA 2 13 rfl rfl (Rr (Zp rfl) (Rr (Q0 (v := .bool _) rfl rfl) (Qc (Qw rfl (fun hc1 => ?_) (fun hc1 => ?_)))))
 ·have hok : splitOk s = false := by simpa using hc1
  refine Qf (Qb (Rr (Q2 (cells := encSV ⟨none, 0, 0⟩) (vs := []) rfl (by kernel_rfl)) (QS (v := .agg _) rfl sizeOf32 rfl rfl hb6 rfl rfl rfl ?_)))
  intro w7 c8 hb6
  replace hX := Bel.out hX c8 om2
  refine Qc (Qu ⟨_, ZN (v := .agg _) rfl (Zb isAgg32 sizeOf32 rfl hb6.at rfl), ?_⟩)
  rw [cov_bad hok]
  exact ⟨none, 0, rfl, Sl.none, hX⟩
 have hok : splitOk s = true := by simpa using hc1
 refine Qp (Qf (Qb (Rr (mvP rfl) (Rr (QJ rfl) (Rr (Qy underlying119 rfl sizeOf116 rfl) (Rr (Qm isAgg116 rfl (hb.get 6 rfl)) (Rr (asP rfl) (Qc (Qf (Qb ?_))))))))))
 have hat0 := hT.nat [] hT.x0
 have hlhat0 := hat0.lt
 obtain ⟨M0, hM0, hMv0, hMs0⟩ := hT.dp [] hT.x0
 obtain ⟨⟨e0, z0, y0⟩, hu0⟩ : ∃ z : SV, (getM M0 a).getD svz = z := ⟨_, rfl⟩
 have hy0 : y0 = dpW m [] a := by have h := hMv0 a; rw [hu0] at h; exact h
 subst hy0
 have hse0 : Sl encU 1 (fun g => g < w.heap.size) w4 e0 z0 (wl (dpW m [] a)) := by have h := hMs0 a; rw [hu0] at h; exact h
 refine Rr (mvP rfl) (Rr (QJ rfl) (Rr (Qy underlying123 rfl sizeOf120 rfl) (Rr (Qm isAgg120 rfl (hat0.get 1 rfl)) (Rr (mvT rfl) (Rr (Y7 underlying120 underlying9 zeroValue32 hM0 rfl rfl hu0) (Zk rfl rfl zeroValue32 rfl sizeOf32 (fun _ => rfl) rfl rfl ?_))))))
 intro b8 w10 x11 hge8 hb8
 have hlt8 := hb8.lt
 have z12 := x11.size
 replace hX := hX.ex x11
 replace hT := hT.ext x11
 replace hb6 := hb6.ext x11
 replace hse0 := hse0.ext x11
 refine Qc (Qf (Qf (Qb (Rr (mvT rfl) (Qo rfl (QD call52 rfl) (Ok.mono (pnames_ok _ hs _) ?_))))))
 rintro _ w13 ⟨⟨a30, c30, rfl, hs30⟩, x14⟩
 have z15 := x14.size
 replace hX := hX.ex x14
 replace hT := hT.ext x14
 replace hb6 := hb6.ext x14
 replace hse0 := hse0.ext x14
 replace hb8 := hb8.ext x14
 refine Rr (QC underlying23 rfl) (Rr QP (Qc (Qt (QU (α := Nat × Option Addr × Nat) [(7, 7), (10, 10), (32, 53)] (fun q => [(32, .int .i64 (q.1 : Int)), (7, pB (nd ((splitL s).take q.1)).b)]) (fun q w' => (q.1 ≤ (splitL s).length ∧ exN m ((splitL s).take q.1)) ∧ Bel False (fun g => g = b8 ∨ g = b6) w13 w' ∧ (Box w' b8 32 (encSV ⟨q.2.1, q.2.2, dpK m (splitL s) a q.1⟩) ∧ Sl encU 1 (fun g => g ≠ b8 ∧ g ≠ b6) w' q.2.1 q.2.2 (wl (dpK m (splitL s) a q.1)) ∧ Box w' b6 32 (encSV ⟨none, 0, 0⟩))) (fun q => (splitL s).length - q.1) (0, e0, z0) ⟨rfl, rfl, trivial⟩ ⟨⟨Nat.zero_le _, hT.x0⟩, Bel.refl _ _, ⟨hb8, hse0.mono (fun g h1 h2 => by omega), hb6⟩⟩ ?_))))
 rintro ⟨k, ea, ec⟩ fb18 w17 ⟨⟨hk, hxk⟩, hXL16, ⟨hb8, hq8, hb6⟩⟩
 dsimp only at *
 have z19 := Bel.size hXL16
 replace hX := Bel.out hX hXL16 om2
 replace hT := hT.keepD hXL16 (fun g h1 h2 => by omega)
 replace hs30 := hs30.keep hXL16 om3
 refine Qf (Qb (Rr (QM rfl rfl) (Qc (Qf (Qw rfl (fun hc2 => ?_) (fun hc2 => ?_))))))
 ·have hk1 : k < (splitL s).length := by have := dcT hc2; omega
  refine Qp (Qf (Qt (Qf (Qb (Rr (QW underlying23 sizeOf9 hs30 rfl rfl omg) (Rr (Zx isAgg9 hs30 rfl rfl (Ze [] hk1) rfl) (Rr (asT rfl) (Qc (Qf (Qf (Qb ?_)))))))))))
  have hat1 := hT.nat ((splitL s).take k) hxk
  have hlhat1 := hat1.lt
  obtain ⟨M1, hM1, hMk⟩ := hT.be _ hxk
  have hMx := hMk ((splitL s).getD k [])
  rw [← J9 hk1] at hMx
  refine Rr (mvP rfl) (Rr (QJ rfl) (Rr (Qy underlying123 rfl sizeOf121 rfl) (Rr (Qm isAgg121 rfl (hat1.get 2 rfl)) (Rr (mvT rfl) ((Decidable.em ((getM M1 ((splitL s).getD k [])).isSome = true)).elim (fun hex => ?_) (fun hex => ?_))))))
  ·have hex2 : exN m ((splitL s).take (k + 1)) := Classical.byContradiction fun hn => by rw [hMx.2 hn] at hex; cases hex
   have hgy : (getM M1 ((splitL s).getD k [])).getD none = some (nd ((splitL s).take (k + 1))).b := by rw [hMx.1 hex2]; rfl
   refine Rr (o_tlook underlying121 underlying9 zeroValue116 hM1 rfl rfl hgy) (Rr (QL (v := (pB (nd ((splitL s).take (k + 1))).b)) rfl) (Qc (Qf (Qb (Rr (QG (v := (pB (nd ((splitL s).take (k + 1))).b)) rfl) (Rr (Zi underlying116 rfl rfl) (Qc (Qq rfl (Qp ?_)))))))))
   have hat2 := hT.nat ((splitL s).take (k + 1)) hex2
   have hlhat2 := hat2.lt
   obtain ⟨M2, hM2, hMv2, hMs2⟩ := hT.dp ((splitL s).take (k + 1)) hex2
   obtain ⟨⟨e2, z2, y2⟩, hu2⟩ : ∃ z : SV, (getM M2 a).getD svz = z := ⟨_, rfl⟩
   have hy2 : y2 = dpW m ((splitL s).take (k + 1)) a := by have h := hMv2 a; rw [hu2] at h; exact h
   subst hy2
   have hse2 : Sl encU 1 (fun g => g < w.heap.size) w17 e2 z2 (wl (dpW m ((splitL s).take (k + 1)) a)) := by have h := hMs2 a; rw [hu2] at h; exact h
   apply Q3 (β := False) [peq _, peq _, peq _, peq _, peq _, peq _, peq _, (postSV (fun g => g ≠ b8 ∧ g ≠ b6) ((dpK m (splitL s) a k) ||| dpW m ((splitL s).take (k + 1)) a))] 8 QV (by kernel_rfl) rfl ⟨Qd _, Qd _, Qd _, Qd _, Qd _, Qd _, Qd _, (Zf _ _), trivial⟩ ?ob11 ?fin11
   case ob11 =>
    refine Qg (fun w20 x21 => ?_) ?_
    ·have hb8 := hb8.ext x21
     exact Qe (Qn rfl (QF isAgg32 sizeOf32 rfl hb8.at rfl))
    refine Qg (fun _ _ => Qe (Qn rfl (QG (v := (pB (nd ((splitL s).take (k + 1))).b)) rfl))) (Qg (fun _ _ => Qa (Qe (Qn rfl (QJ rfl)))) (Qg (fun _ _ => Qa (Qe (Qn rfl (Qy underlying123 rfl sizeOf120 rfl)))) (Qg (fun w32 x33 => ?_) ?_)))
    ·have hat2 := hat2.ext x33
     exact Qa (Qe (Qn rfl (Qm isAgg120 rfl (hat2.get 1 rfl))))
    refine Qg (fun _ _ => Qe (Qn rfl (mvT rfl))) (Qg (fun w38 x39 => ?_) ?_)
    ·have hM2 := hM2.ext x39
     exact Qa (Qa (Qe (Qn rfl (Y7 underlying120 underlying9 zeroValue32 hM2 rfl rfl hu2))))
    refine Qg (fun w41 x42 => ?_) ?_
    ·have z43 := x42.size
     have hq8 := hq8.ext x42
     have hse2 := hse2.ext x42
     refine Qa (Qa (Qe ?_))
     exact ZK rfl (QB call53 rfl rfl) ((bor_ok _ ⟨ea, ec, (dpK m (splitL s) a k)⟩ _ hq8 ⟨e2, z2, dpW m ((splitL s).take (k + 1)) a⟩ _ hse2).mono (fun v w2 ⟨a, c, e, h, x⟩ => ⟨x, a, c, e, h.mono (fun g h1 h2 => by have := h2.1; omega)⟩))
    exact QR
   case fin11 =>
    intro w44 x45
    have z46 := x45.size
    replace hXL16 := Bel.ex hXL16 x45
    replace hb8 := hb8.ext x45
    replace hb6 := hb6.ext x45
    refine Qa (Qa (Qa (Qa (Qa (Qa (Qa (QQ (fun v52 hv52 => ?_))))))))
    obtain ⟨a52, c52, rfl, hq52⟩ := hv52
    refine Qe (QS (v := .agg _) rfl sizeOf32 rfl rfl hb8 rfl rfl rfl ?_)
    intro w47 c48 hb8
    have z49 := Bel.size c48
    replace hXL16 := Bel.out hXL16 c48 om2
    replace hb6 := hb6.keep c48 om1
    replace hq52 := hq52.keep c48 om3
    refine Qc (Qb (Rr (QO rfl rfl omg) (Rr (mvI rfl) (Qc ⟨(k + 1, a52, c52), ⟨sT, sT, trivial⟩, oT, ⟨?_, hXL16, ?_⟩, ?_⟩))))
    ·exact ⟨by show k + 1 ≤ (splitL s).length; omega, hex2⟩
    ·exact ⟨hb8, hq52, hb6⟩
    ·show (splitL s).length - (k + 1) < (splitL s).length - k; omega
  have hex2 : ¬ exN m ((splitL s).take (k + 1)) := fun h => hex (by rw [hMx.1 h]; rfl)
  have hgy : (getM M1 ((splitL s).getD k [])).getD none = none := by rw [hMx.2 hex2]; rfl
  refine Rr (o_tlook underlying121 underlying9 zeroValue116 hM1 rfl rfl hgy) (Rr (QL (v := (.pointer none)) rfl) (Qc (Qf (Qb (Rr (QG (v := (.pointer none)) rfl) (Rr (Zi underlying116 rfl rfl) (Qc (Za rfl (Qf (Qb (Rr (QF isAgg32 sizeOf32 rfl hb8.at rfl) (QS (v := .agg _) rfl sizeOf32 rfl rfl hb6 rfl rfl rfl ?_))))))))))))
  intro w50 c51 hb6
  replace hX := Bel.out hX c51 om2
  replace hq8 := hq8.keep c51 om3
  refine Qc (Qu ⟨_, ZN (v := .agg _) rfl (Zb isAgg32 sizeOf32 rfl hb6.at rfl), ?_⟩)
  rw [cov_cut hm hok hk1 (fun e he h => hex2 (.inr ⟨e, he, h⟩))]
  exact ⟨_, _, rfl, hq8.top, hX⟩
 have hk1 : ¬ k < (splitL s).length := by have := dcF hc2; omega
 refine QN (QI (Qf ?_))
 have hkl : ((splitL s).take k) = (splitL s) := List.take_of_length_le (by omega)
 rw [show k = (splitL s).length by omega] at hb8 hq8
 have hat3 := hT.nat ((splitL s).take k) hxk
 have hlhat3 := hat3.lt
 obtain ⟨M3, hM3, hMv3, hMs3⟩ := hT.pl ((splitL s).take k) hxk
 obtain ⟨⟨e3, z3, y3⟩, hu3⟩ : ∃ z : SV, (getM M3 a).getD svz = z := ⟨_, rfl⟩
 have hy3 : y3 = plW m ((splitL s).take k) a := by have h := hMv3 a; rw [hu3] at h; exact h
 subst hy3
 have hse3 : Sl encU 1 (fun g => g < w.heap.size) w17 e3 z3 (wl (plW m ((splitL s).take k) a)) := by have h := hMs3 a; rw [hu3] at h; exact h
 apply Q3 (β := False) [peq _, peq _, peq _, peq _, peq _, peq _, peq _, (postSV (fun g => g ≠ b8 ∧ g ≠ b6) ((dpK m (splitL s) a (splitL s).length) ||| plW m ((splitL s).take k) a))] 8 QV (by kernel_rfl) rfl ⟨Qd _, Qd _, Qd _, Qd _, Qd _, Qd _, Qd _, (Zf _ _), trivial⟩ ?ob13 ?fin13
 case ob13 =>
  refine Qg (fun w53 x54 => ?_) ?_
  ·have hb8 := hb8.ext x54
   exact Qe (Qn rfl (QF isAgg32 sizeOf32 rfl hb8.at rfl))
  refine Qg (fun _ _ => Qe (Qn rfl (mvP rfl))) (Qg (fun _ _ => Qa (Qe (Qn rfl (QJ rfl)))) (Qg (fun _ _ => Qa (Qe (Qn rfl (Qy underlying123 rfl sizeOf120 rfl)))) (Qg (fun w65 x66 => ?_) ?_)))
  ·have hat3 := hat3.ext x66
   exact Qa (Qe (Qn rfl (Qm isAgg120 rfl (hat3.get 0 rfl))))
  refine Qg (fun _ _ => Qe (Qn rfl (mvT rfl))) (Qg (fun w71 x72 => ?_) ?_)
  ·have hM3 := hM3.ext x72
   exact Qa (Qa (Qe (Qn rfl (Y7 underlying120 underlying9 zeroValue32 hM3 rfl rfl hu3))))
  refine Qg (fun w74 x75 => ?_) ?_
  ·have z76 := x75.size
   have hq8 := hq8.ext x75
   have hse3 := hse3.ext x75
   refine Qa (Qa (Qe ?_))
   exact ZK rfl (QB call53 rfl rfl) ((bor_ok _ ⟨ea, ec, (dpK m (splitL s) a (splitL s).length)⟩ _ hq8 ⟨e3, z3, plW m ((splitL s).take k) a⟩ _ hse3).mono (fun v w2 ⟨a, c, e, h, x⟩ => ⟨x, a, c, e, h.mono (fun g h1 h2 => by have := h2.1; omega)⟩))
  exact QR
 case fin13 =>
  intro w77 x78
  replace hX := hX.ex x78
  replace hb6 := hb6.ext x78
  refine Qa (Qa (Qa (Qa (Qa (Qa (Qa (QQ (fun v61 hv61 => ?_))))))))
  obtain ⟨a61, c61, rfl, hq61⟩ := hv61
  refine Qe (QS (v := .agg _) rfl sizeOf32 rfl rfl hb6 rfl rfl rfl ?_)
  intro w80 c81 hb6
  replace hX := Bel.out hX c81 om2
  replace hq61 := hq61.keep c81 om3
  refine Qc (Qu ⟨_, ZN (v := .agg _) rfl (Zb isAgg32 sizeOf32 rfl hb6.at rfl), ?_⟩)
  rw [cov_end hm hok]
  rw [hkl] at hq61 ⊢
  exact ⟨_, _, rfl, hq61.top, hX⟩
