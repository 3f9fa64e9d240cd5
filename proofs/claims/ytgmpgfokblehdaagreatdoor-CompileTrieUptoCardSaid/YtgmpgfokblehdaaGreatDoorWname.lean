/- Walks: what functions return. -/
import Derived.Test.YtgmpgfokblehdaaGreatDoorWpath2
set_option linter.unusedVariables false
set_option linter.unusedSimpArgs false
set_option linter.unnecessarySimpa false
namespace Go.Proofs.YtgmpgfokblehdaaGreatDoor
open Go Go.Lx Go.RowKit Tryz
set_option maxRecDepth 100000
theorem kw_ok (β : Prop) (w : World) : Ok Tryz.prog 90 #[] w fun v w' => ∃ a c, v = .slice a keywordsS.length c ∧ Sl encS 1 (Fsh w w') w' a c keywordsS ∧ Ext β w w' := by
 refine Qv 2 func90 rfl rfl rfl ?_
 have hX : Ext β w w := Bel.refl _ _
 refine Qf (Qb (Rr Qj (Qc (Qf (Qb (ZP (vs := [str _, str _, str _, str _, str _, str _, str _, str _, str _, str _, str _, str _, str _, str _, str _, str _, str _, str _, str _, str _]) (keywordsS) rfl Q5 ZC rfl rfl ⟨rfl, ⟨rfl, ⟨rfl, ⟨rfl, ⟨rfl, ⟨rfl, ⟨rfl, ⟨rfl, ⟨rfl, ⟨rfl, ⟨rfl, ⟨rfl, ⟨rfl, ⟨rfl, ⟨rfl, ⟨rfl, ⟨rfl, ⟨rfl, ⟨rfl, ⟨rfl, trivial⟩⟩⟩⟩⟩⟩⟩⟩⟩⟩⟩⟩⟩⟩⟩⟩⟩⟩⟩⟩ rfl rfl rfl rfl ?_))))))
 intro a1 w1 x2 hown1
 replace hX := hX.ex x2
 replace hown1 := hown1.mono (D' := fun g => w.heap.size ≤ g) (fun g h1 h2 => by omega)
 exact Rr (asS rfl) (Qc (Qu ⟨_, Qr rfl rfl, ⟨_, _, rfl, (hown1.slA Q5).mono (fun g h1 h2 => by omega), hX⟩⟩))
theorem rkw_ok (β : Prop) (w : World) : Ok Tryz.prog 194 #[] w fun v w' => ∃ a c, v = .slice a keywordsS.length c ∧ Sl encS 1 (Fsh w w') w' a c keywordsS ∧ Ext β w w' := by
 refine Qv 2 func194 rfl rfl rfl ?_
 have hX : Ext β w w := Bel.refl _ _
 refine Qf (Qb (Rr Qj (Qc (Qf (Qb (ZP (vs := [str _, str _, str _, str _, str _, str _, str _, str _, str _, str _, str _, str _, str _, str _, str _, str _, str _, str _, str _, str _]) (keywordsS) rfl Q5 ZC rfl rfl ⟨rfl, ⟨rfl, ⟨rfl, ⟨rfl, ⟨rfl, ⟨rfl, ⟨rfl, ⟨rfl, ⟨rfl, ⟨rfl, ⟨rfl, ⟨rfl, ⟨rfl, ⟨rfl, ⟨rfl, ⟨rfl, ⟨rfl, ⟨rfl, ⟨rfl, ⟨rfl, trivial⟩⟩⟩⟩⟩⟩⟩⟩⟩⟩⟩⟩⟩⟩⟩⟩⟩⟩⟩⟩ rfl rfl rfl rfl ?_))))))
 intro a1 w1 x2 hown1
 replace hX := hX.ex x2
 replace hown1 := hown1.mono (D' := fun g => w.heap.size ≤ g) (fun g h1 h2 => by omega)
 exact Rr (asS rfl) (Qc (Qu ⟨_, Qr rfl rfl, ⟨_, _, rfl, (hown1.slA Q5).mono (fun g h1 h2 => by omega), hX⟩⟩))
theorem letter_ok (β : Prop) (c : UInt8) (w : World) : Ok Tryz.prog 91 #[.int .u8 (c.toNat : Int)] w fun v w' => v = .bool (letterB c) ∧ Ext β w w' := by
 refine Qv 9 func91 rfl rfl rfl ?_
 have hX : Ext β w w := Bel.refl _ _
 refine Qf (Qb (Rr Qj (Qc (Qf (Qb (Rr (mvI rfl) (Rr (ZU rfl rfl) (Rr (mvB rfl) (Qs 2 5 rfl rfl rfl (fun hg => mvI rfl) (Qs 2 5 rfl rfl rfl (fun hg => Jk (QK (u := undef) hg) rfl) (Rr (Zt (u := undef) rfl rfl) (Rr (asB rfl) (Qc (Qu ⟨_, Qr rfl rfl, ⟨cvB ?_, hX⟩⟩))))))))))))))
 all_goals (rfl)
theorem inner_ok (β : Prop) (c : UInt8) (b : Nat) (w : World) (hb : At w b 0 [.func (.func 91) #[] #[]]) : Ok Tryz.prog 92 #[.int .u8 (c.toNat : Int), .pointer (some ⟨b, 0, none⟩)] w fun v w' => v = .bool (innerB c) ∧ Ext β w w' := by
 refine Qv 19 func92 rfl rfl rfl ?_
 have hX : Ext β w w := Bel.refl _ _
 refine Qf (Qb (Rr Qj (Qc (Qf (Qb (Rr (Qm isAgg184 rfl (hb.get 0 rfl)) (Rr (mvI rfl) (Qo rfl (o_clo1 call91 rfl rfl) (Ok.mono (letter_ok (β) _ _) ?_)))))))))
 rintro _ w1 ⟨rfl, x2⟩
 replace hX := hX.ex x2
 refine Rr (mvB rfl) (Qs 3 7 rfl rfl rfl (fun hg => mvI rfl) (Qs 3 7 rfl rfl rfl (fun hg => ZU (QK (u := undef) hg) rfl) (Qs 3 7 rfl rfl rfl (fun hg => QG (v := .bool _) (QK (u := undef) hg)) (ZR 6 10 rfl rfl rfl (fun hg => mvI rfl) (ZR 6 10 rfl rfl rfl (fun hg => Jk (QK (u := undef) hg) rfl) (Qs 3 7 rfl rfl rfl (fun hg => Zt (u := undef) (QK (u := undef) hg) (gand (u := undef) hg)) (Rr (ZS (u := undef) rfl rfl) (Rr (mvB rfl) (Qs 11 15 rfl rfl rfl (fun hg => mvI rfl) (Qs 11 15 rfl rfl rfl (fun hg => Zu (QK (u := undef) hg) rfl) (Rr (ZS (u := undef) rfl rfl) (Rr (asB rfl) (Qc (Qu ⟨_, Qr rfl rfl, ⟨cvB ?_, hX⟩⟩))))))))))))))
 all_goals (rfl)
theorem rname_ok (β : Prop) (s : Str) (hs : s.length ≤ 4611686018427387904) (w : World) : Ok Tryz.prog 141 #[str s] w fun v w' => v = .bool (nmS s) ∧ Ext β w w' := by
 have hkl : keywordsS.length = 20 := rfl
 refine Qv 68 func141 rfl rfl rfl ?_
 have hX : Ext β w w := Bel.refl _ _
 refine Qf (Qb (Rr Qj (Qc (Qf (Qf (Qb (Rr (mvT rfl) (Rr (ZW underlying9 rfl) (Rr (Zu rfl rfl) (Rr (mvB rfl) (Qs 3 11 rfl rfl rfl (fun hg => mvT rfl) (Qs 3 11 rfl rfl rfl (fun hg => ZW underlying9 (QK (u := undef) hg)) (Qs 3 11 rfl rfl rfl (fun hg => ZM (QK (u := undef) hg) rfl) (Rr (ZS (u := undef) rfl rfl) (Qc (Qw rfl (fun hc1 => ?_) (fun hc1 => ?_)))))))))))))))))
 ·first | replace hc1 := dcT hc1 | replace hc1 := Zm hc1 | skip
  refine Qf (Qb (Rr Qj (Qc (Qu ⟨_, Qr rfl rfl, ⟨cvB ?_, hX⟩⟩))))
  all_goals (exact (nmS_pre hc1).symm)
 first | replace hc1 := dcF hc1 | replace hc1 := Zo hc1 | skip
 refine Qp (Qf (Qf (Qb (Rr Qj (Qc (Qt ?_))))))
 refine QU (α := Nat) [(2, 5), (16, 57)] (fun k => [(3, .int .i64 (k : Int))]) (fun k w' => (k ≤ s.length ∧ ∀ i, i < k → okAt s i = true) ∧ Ext β w w') (fun k => s.length - k) 0 ⟨rfl, trivial⟩ ⟨⟨by omega, fun i hi => absurd hi (Nat.not_lt_zero _)⟩, Bel.refl _ _⟩ ?_
 rintro k fb3 w2 ⟨⟨hk, hall⟩, hXL1⟩
 replace hX := hX.ex hXL1
 refine Qf (Qf (Qb (Rr (mvI rfl) (Rr (mvT rfl) (Rr (ZW underlying9 rfl) (Rr (QM rfl rfl) (Qc (Qw rfl (fun hc2 => ?_) (fun hc2 => ?_)))))))))
 ·first | replace hc2 := dcT hc2 | replace hc2 := Zm hc2 | skip
  refine Qp (Qf (Qt (Qf (Qb (Rr (mvT rfl) (Rr (mvI rfl) (Rr (Jl underlying9 rfl rfl (by omega)) (Rr (ZU rfl rfl) (Rr (mvB rfl) (Qs 4 26 rfl rfl rfl (fun hg => mvT rfl) (Qs 4 26 rfl rfl rfl (fun hg => mvI rfl) (Qs 4 26 rfl rfl rfl (fun hg => Jl underlying9 (QK (u := undef) hg) (QK (u := undef) hg) (by omega)) (Qs 4 26 rfl rfl rfl (fun hg => Jk (QK (u := undef) hg) rfl) (Rr (Zt (u := undef) rfl rfl) (Rr (asB rfl) (Qc (Qf (Qb (Rr (mvT rfl) (Rr (mvI rfl) (Rr (Jl underlying9 rfl rfl (by omega)) (Rr (ZU rfl rfl) (Rr (mvB rfl) (Qs 4 36 rfl rfl rfl (fun hg => mvT rfl) (Qs 4 36 rfl rfl rfl (fun hg => mvI rfl) (Qs 4 36 rfl rfl rfl (fun hg => Jl underlying9 (QK (u := undef) hg) (QK (u := undef) hg) (by omega)) (Qs 4 36 rfl rfl rfl (fun hg => Jk (QK (u := undef) hg) rfl) (Rr (Zt (u := undef) rfl rfl) (Rr (mvB rfl) (Qs 10 42 rfl rfl rfl (fun hg => mvT rfl) (Qs 10 42 rfl rfl rfl (fun hg => mvI rfl) (Qs 10 42 rfl rfl rfl (fun hg => Jl underlying9 (QK (u := undef) hg) (QK (u := undef) hg) (by omega)) (Qs 10 42 rfl rfl rfl (fun hg => Zu (QK (u := undef) hg) rfl) (Rr (ZS (u := undef) rfl rfl) (Rr (asB rfl) (Qc (Qf (Qb (Rr (mvB rfl) (Rr (Zp rfl) (Rr (mvB rfl) (Qs 2 50 rfl rfl rfl (fun hg => mvI rfl) (Qs 2 50 rfl rfl rfl (fun hg => Zu (QK (u := undef) hg) rfl) (Qs 2 50 rfl rfl rfl (fun hg => QG (v := .bool _) (QK (u := undef) hg)) (ZR 5 53 rfl rfl rfl (fun hg => mvB rfl) (ZR 5 53 rfl rfl rfl (fun hg => Zp (QK (u := undef) hg)) (Qs 2 50 rfl rfl rfl (fun hg => ZS (u := undef) (QK (u := undef) hg) (gand (u := undef) hg)) (Rr (Zt (u := undef) rfl rfl) (Qc (Qw rfl (fun hc3 => ?_) (fun hc3 => ?_)))))))))))))))))))))))))))))))))))))))))))))))))))
  ·first | replace hc3 := dcT hc3 | replace hc3 := Zm hc3 | skip
   refine Qf (Qb (Rr Qj (Qc (Qu ⟨_, Qr rfl rfl, ⟨cvB ?_, hX⟩⟩))))
   all_goals (exact (nmS_no (k := k) (by omega) (okAt_f hc3)).symm)
  first | replace hc3 := dcF hc3 | replace hc3 := Zo hc3 | skip
  refine Qp (Qb (Rr (mvI rfl) (Rr (QO rfl rfl omg) (Rr (asI rfl) (Qc ⟨k + 1, ⟨sT, trivial⟩, oT, ⟨?_, hXL1⟩, ?_⟩)))))
  ·exact ⟨by omega, okAt_succ hall (okAt_r hc3)⟩
  ·omega
 first | replace hc2 := dcF hc2 | replace hc2 := Zo hc2 | skip
 refine QN (QI (Qf (Qf (Qb (Qo rfl (Z1 call194) (Ok.mono (rkw_ok (β) _) ?_))))))
 rintro _ w4 ⟨a58, c58, rfl, hs58, x5⟩
 replace hX := hX.ex x5
 refine Rr (QC underlying23 rfl) (Rr QP (Qc (Qt ?_)))
 refine QU (α := Nat) [(2, 2), (7, 7), (60, 67)] (fun j => [(60, .int .i64 (j : Int))]) (fun j w' => (j ≤ keywordsS.length ∧ (keywordsS.take j).any (fun y => y == s) = false) ∧ Ext β w4 w') (fun j => keywordsS.length - j) 0 ⟨rfl, trivial⟩ ⟨⟨by omega, by simp⟩, Bel.refl _ _⟩ ?_
 rintro j fb8 w7 ⟨⟨hj, hany⟩, hXL6⟩
 replace hX := hX.ex hXL6
 replace hs58 := hs58.ext hXL6
 refine Qf (Qb (Rr (QM rfl rfl) (Qc (Qf (Qw rfl (fun hc4 => ?_) (fun hc4 => ?_))))))
 ·first | replace hc4 := dcT hc4 | replace hc4 := Zm hc4 | skip
  refine Qp (Qf (Qt (Qf (Qb (Rr (QW underlying23 sizeOf9 hs58 rfl rfl omg) (Rr (Zx isAgg9 hs58 rfl rfl (getElem?_of (by first | omega | assumption)) rfl) ?_))))))
  refine Rr (asT rfl) (Qc (Qf (Qb (Rr (mvT rfl) (Rr (mvT rfl) (Rr (Z9 rfl rfl) (Qc (Qw rfl (fun hc5 => ?_) (fun hc5 => ?_)))))))))
  ·first | replace hc5 := dcT hc5 | replace hc5 := Zm hc5 | skip
   refine Qf (Qb (Rr Qj (Qc (Qu ⟨_, Qr rfl rfl, ⟨cvB ?_, hX⟩⟩))))
   all_goals (exact (nmS_kw (kw_in (by omega) hc5)).symm)
  first | replace hc5 := dcF hc5 | replace hc5 := Zo hc5 | skip
  refine Qp (Qb (Rr (QO rfl rfl omg) (Rr (mvI rfl) (Qc ⟨j + 1, ⟨sT, trivial⟩, oT, ⟨?_, hXL6⟩, ?_⟩))))
  ·exact ⟨by omega, Jd (by omega) hany hc5⟩
  ·omega
 first | replace hc4 := dcF hc4 | replace hc4 := Zo hc4 | skip
 refine QN (QI (Qf (Qb (Rr Qj (Qc (Qu ⟨_, Qr rfl rfl, ⟨cvB ?_, hX⟩⟩))))))
 all_goals (rw [nmS_of (by omega) hk hall hc1, kw_out (by omega) hany]; rfl)
theorem name_ok (β : Prop) (s : Str) (hs : s.length ≤ 4611686018427387904) (w : World) : Ok Tryz.prog 40 #[str s] w fun v w' => v = .bool (nmS s) ∧ Ext β w w' := by
 refine Qv 44 func40 rfl rfl rfl ?_
 have hX : Ext β w w := Bel.refl _ _
 refine Qf (Qb (Rr Qj (Qc (Qf (Qf (Qb (Rr (mvT rfl) (Rr (ZW underlying9 rfl) (Rr (Zu rfl rfl) (Rr (mvB rfl) (Qs 3 9 rfl rfl rfl (fun hg => mvT rfl) (Qs 3 9 rfl rfl rfl (fun hg => ZW underlying9 (QK (u := undef) hg)) (Qs 3 9 rfl rfl rfl (fun hg => ZM (QK (u := undef) hg) rfl) (Rr (ZS (u := undef) rfl rfl) (Rr (mvB rfl) (Rg_split 14 rfl (fun hs1 => ?_) (fun hs1 => ?_)))))))))))))))))
 ·refine ZD 8 14 rfl rfl (cvB hs1) rfl rfl (ZD 8 14 rfl rfl (cvB hs1) rfl rfl (ZD 8 14 rfl rfl (cvB hs1) rfl rfl (Rr (Q7 (v := .bool _) (cvB hs1) rfl) (Qc (Za rfl (Qf (Qb (Rr Qj (Qc (Qu ⟨_, Qr rfl rfl, ⟨cvB ?_, hX⟩⟩))))))))))
  all_goals (exact (nmS_pre hs1).symm)
 refine QA 8 14 rfl (cvB hs1) (Qo rfl (Z1 call90) (Ok.mono (kw_ok (β) _) ?_))
 rintro _ w2 ⟨a15, c15, rfl, hs15, x3⟩
 replace hX := hX.ex x3
 refine QA 8 14 rfl (cvB hs1) (Rr (mvT rfl) (QA 8 14 rfl (cvB hs1) (Qo rfl (QB call89 rfl rfl) (Ok.mono (scontains_ok (β) _ _ _ _ _ _ hs15) ?_))))
 rintro _ w4 ⟨rfl, x5⟩
 replace hX := hX.ex x5
 refine Rr (Q0 (v := .bool _) (cvB hs1) rfl) (Qc (Qw rfl (fun hc2 => ?_) (fun hc2 => ?_)))
 ·first | replace hc2 := dcT hc2 | replace hc2 := Zm hc2 | skip
  refine Qf (Qb (Rr Qj (Qc (Qu ⟨_, Qr rfl rfl, ⟨cvB ?_, hX⟩⟩))))
  all_goals (exact (nmS_kw hc2).symm)
 first | replace hc2 := dcF hc2 | replace hc2 := Zo hc2 | skip
 refine Qp (Qf (Qb (Zk rfl rfl zeroValue184 rfl sizeOf184 (fun _ => rfl) rfl rfl ?_)))
 intro b3 w6 x7 hge3 hb3
 replace hX := hX.ex x7
 refine Qc (Qf (Qb (Rr (o_fn1 rfl) (Rr (QL (v := .func _ _ _) rfl) (Qc (Qf (Qf (Qb (Rr (mvT rfl) (Rr (ZW underlying9 rfl) (Rr QP (Qc (Qt ?_)))))))))))))
 refine QU (α := Nat) [(2, 2), (5, 5), (22, 43)] (fun k => [(22, .int .i64 (k : Int))]) (fun k w' => (k ≤ s.length ∧ ∀ i, i < k → okAt s i = true) ∧ Ext β w6 w') (fun k => s.length - k) 0 ⟨rfl, trivial⟩ ⟨⟨by omega, fun i hi => absurd hi (Nat.not_lt_zero _)⟩, Bel.refl _ _⟩ ?_
 rintro k fb10 w9 ⟨⟨hk, hall⟩, hXL8⟩
 replace hX := hX.ex hXL8
 replace hb3 := hb3.ext hXL8
 refine Qf (Qb (Rr (QM rfl rfl) (Qc (Qf (Qw rfl (fun hc3 => ?_) (fun hc3 => ?_))))))
 ·first | replace hc3 := dcT hc3 | replace hc3 := Zm hc3 | skip
  refine Qp (Qf (Qt (Qf (Qb (Rr (mvI rfl) (Rr (asI rfl) (Qc (Qf ?_))))))))
  apply Q3 (β := β) [peq _, peq _, peq _, peq _, peq _, peq _, peq _, peq _, peq _, peq _, peq _, peq _, peq _, peq _, peq _, peq _, peq _, peq _] 18 QV (by kernel_rfl) rfl ⟨Qd _, Qd _, Qd _, Qd _, Qd _, Qd _, Qd _, Qd _, Qd _, Qd _, Qd _, Qd _, Qd _, Qd _, Qd _, Qd _, Qd _, Qd _, trivial⟩ ?ob8 ?fin8
  case ob8 =>
   refine Qg (fun _ _ => Qe (Qn rfl (QG (v := .func _ _ _) rfl))) (Qg (fun _ _ => Qe (Qn rfl (mvT rfl))) (Qg (fun _ _ => Qe (Qn rfl (mvI rfl))) (Qg (fun w17 x18 => Qa (Qa (Qe (Qn rfl (Jl underlying9 rfl rfl omg))))) (Qg (fun w19 x20 => ?_) ?_))))
   ·have hb3 := hb3.ext x20
    exact Qa (Qa (Qe (Zj rfl (o_clo1 call92 rfl rfl) (inner_ok (β) _ _ _ hb3.at))))
   refine Qg (fun _ _ => Qa (Qe (Qn rfl (Zp rfl)))) (Qg (fun _ _ => Qa (Qa (Qe (Qn rfl (mvB rfl))))) (Qg (fun _ _ => Qa (Qe (Zs 6 31 rfl rfl (fun hg => mvI rfl)))) (Qg (fun _ _ => Qa (Qa (Qe (Zs 6 31 rfl rfl (fun hg => Zu (QK (u := undef) hg) rfl))))) (Qg (fun _ _ => Qa (Qa (Qa (Qe (Zs 6 31 rfl rfl (fun hg => QG (v := .bool _) (QK (u := undef) hg))))))) (Qg (fun w31 x32 => ?_) ?_)))))
   ·have hb3 := hb3.ext x32
    exact Qa (Qe (Yo 9 34 rfl rfl (fun hg => Qm isAgg184 rfl (hb3.at.get 0 rfl))))
   exact Qg (fun _ _ => Qa (Qe (Yo 9 34 rfl rfl (fun hg => mvT rfl)))) (Qg (fun _ _ => Qa (Qe (Yo 9 34 rfl rfl (fun hg => mvI rfl)))) (Qg (fun w37 x38 => Qa (Qa (Qa (Qe (Yo 9 34 rfl rfl (fun hg => Jl underlying9 (QK (u := undef) hg) (QK (u := undef) hg) omg)))))) (Qg (fun _ _ => Qa (Qa (Qa (Qa (Qe (OpS_mayCall2 9 34 rfl rfl (fun hg => ⟨(o_clo1 call91 (QK (u := undef) hg) (QK (u := undef) hg)), letter_ok (β) _ _⟩))))))) (Qg (fun _ _ => Qa (Qa (Qe (Yo 9 34 rfl rfl (fun hg => Zp (QK (u := undef) hg)))))) (Qg (fun _ _ => Qa (Qa (Qa (Qe (Zs 6 31 rfl rfl (fun hg => Zt (u := undef) (QK (u := undef) hg) (gand (u := undef) hg))))))) (Qg (fun _ _ => Qa (Qa (Qe (Qn rfl (ZS (u := undef) rfl rfl))))) QR))))))
  case fin8 =>
   intro w47 x48
   replace hX := hX.ex x48
   replace hXL8 := Bel.ex hXL8 x48
   refine Qa (Qa (Qa (Qa (Qa (Qa (Qa (Qa (Qa (Qa (Qa (Qa (Qa (Qa (Qa (Qa (Qa (Qa (Qe (Qc (Qw rfl (fun hc4 => ?_) (fun hc4 => ?_)))))))))))))))))))))
   ·first | replace hc4 := dcT hc4 | replace hc4 := Zm hc4 | skip
    refine Qf (Qb (Rr Qj (Qc (Qu ⟨_, Qr rfl rfl, ⟨cvB ?_, hX⟩⟩))))
    all_goals (exact (nmS_no (k := k) (by omega) (by rw [okAt, hc4]; rfl)).symm)
   first | replace hc4 := dcF hc4 | replace hc4 := Zo hc4 | skip
   refine Qp (Qb (Rr (QO rfl rfl omg) (Rr (mvI rfl) (Qc ⟨k + 1, ⟨sT, trivial⟩, oT, ⟨?_, hXL8⟩, ?_⟩))))
   ·exact ⟨by omega, okAt_succ hall (by rw [okAt, hc4]; rfl)⟩
   ·omega
 first | replace hc3 := dcF hc3 | replace hc3 := Zo hc3 | skip
 refine QN (QI (Qf (Qb (Rr Qj (Qc (Qu ⟨_, Qr rfl rfl, ⟨cvB ?_, hX⟩⟩))))))
 all_goals (rw [nmS_of (by omega) hk hall hs1, hc2]; rfl)
