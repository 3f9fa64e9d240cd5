/- Walks: what functions return. -/
import Derived.Test.YtjnjalalkbamkaaGreatDoorWpath2
set_option linter.unusedVariables false
set_option linter.unusedSimpArgs false
set_option linter.unnecessarySimpa false
namespace Go.Proofs.YtjnjalalkbamkaaGreatDoor
open Go Go.Lx Go.RowKit Tryz
set_option maxRecDepth 100000
theorem kw_ok (β : Prop) (w : World) : Ok Tryz.prog 129 #[] w fun v w' => ∃ a c, v = .slice a keywordsS.length c ∧ Sl encS 1 (Fsh w w') w' a c keywordsS ∧ Ext β w w' := by
 refine Qz 2 func129 rfl rfl rfl ?_
 have hX : Ext β w w := Bel.refl _ _
 refine Qe (Qc ?_)
 refine Rr Qm ?_
 refine Qd (Qe (Qc ?_))
 refine Rg_bs (vs := [str _, str _, str _, str _, str _, str _, str _, str _, str _, str _, str _, str _, str _, str _, str _, str _, str _, str _, str _, str _]) (keywordsS) rfl encS_ok el_string rfl rfl ⟨rfl, ⟨rfl, ⟨rfl, ⟨rfl, ⟨rfl, ⟨rfl, ⟨rfl, ⟨rfl, ⟨rfl, ⟨rfl, ⟨rfl, ⟨rfl, ⟨rfl, ⟨rfl, ⟨rfl, ⟨rfl, ⟨rfl, ⟨rfl, ⟨rfl, ⟨rfl, trivial⟩⟩⟩⟩⟩⟩⟩⟩⟩⟩⟩⟩⟩⟩⟩⟩⟩⟩⟩⟩ rfl rfl rfl rfl ?_
 intro a1 w1 x2 hown1
 have z3 := x2.size
 replace hX := hX.ex x2
 replace hown1 := hown1.mono (D' := fun g => w.heap.size ≤ g) (fun g h1 h2 => by omega)
 refine Rr (asS rfl) ?_
 refine Qd (Qy ?_)
 refine ⟨_, Qp rfl rfl, ?_⟩
 exact ⟨_, _, rfl, (hown1.slA encS_ok).mono (fun g h1 h2 => by omega), hX⟩

theorem letter_ok (β : Prop) (c : UInt8) (w : World) : Ok Tryz.prog 130 #[.int .u8 (c.toNat : Int)] w fun v w' => v = .bool (letterB c) ∧ Ext β w w' := by
 refine Qz 9 func130 rfl rfl rfl ?_
 have hX : Ext β w w := Bel.refl _ _
 refine Qe (Qc ?_)
 refine Rr Qm ?_
 refine Qd (Qe (Qc ?_))
 refine Rr (mvI rfl) ?_
 refine Rr (o_geq rfl rfl) ?_
 refine Rr (mvB rfl) ?_
 refine Qq 2 5 rfl rfl rfl (fun hg => (mvI rfl)) ?_
 refine Qq 2 5 rfl rfl rfl (fun hg => (o_leq (QE (u := undef) hg) rfl)) ?_
 refine Rr (o_and (u := undef) rfl rfl) ?_
 refine Rr (asB rfl) ?_
 refine Qd (Qy ?_)
 refine ⟨_, Qp rfl rfl, ?_⟩
 refine ⟨cvB ?_, hX⟩
 all_goals (rfl)

theorem inner_ok (β : Prop) (c : UInt8) (b : Nat) (w : World) (hb : At w b 0 [.func (.func 130) #[] #[]]) : Ok Tryz.prog 131 #[.int .u8 (c.toNat : Int), .pointer (some ⟨b, 0, none⟩)] w fun v w' => v = .bool (innerB c) ∧ Ext β w w' := by
 refine Qz 19 func131 rfl rfl rfl ?_
 have hX : Ext β w w := Bel.refl _ _
 refine Qe (Qc ?_)
 refine Rr Qm ?_
 refine Qd (Qe (Qc ?_))
 refine Rr (Qn isAgg212 rfl (hb.get 0 rfl)) ?_
 refine Rr (mvI rfl) ?_
 refine Qo rfl (o_clo1 call130 rfl rfl) (Ok.mono (letter_ok (β) _ _) ?_)
 rintro _ w1 ⟨rfl, x2⟩
 replace hX := hX.ex x2
 refine Rr (mvB rfl) ?_
 refine Qq 3 7 rfl rfl rfl (fun hg => (mvI rfl)) ?_
 refine Qq 3 7 rfl rfl rfl (fun hg => (o_geq (QE (u := undef) hg) rfl)) ?_
 refine Qq 3 7 rfl rfl rfl (fun hg => (Ql (v := .bool _) (QE (u := undef) hg))) ?_
 refine Rg_may2 6 10 rfl rfl rfl (fun hg => (mvI rfl)) ?_
 refine Rg_may2 6 10 rfl rfl rfl (fun hg => (o_leq (QE (u := undef) hg) rfl)) ?_
 refine Qq 3 7 rfl rfl rfl (fun hg => (o_and (u := undef) (QE (u := undef) hg) (gand (u := undef) hg))) ?_
 refine Rr (o_or (u := undef) rfl rfl) ?_
 refine Rr (mvB rfl) ?_
 refine Qq 11 15 rfl rfl rfl (fun hg => (mvI rfl)) ?_
 refine Qq 11 15 rfl rfl rfl (fun hg => (Q0 (QE (u := undef) hg) rfl)) ?_
 refine Rr (o_or (u := undef) rfl rfl) ?_
 refine Rr (asB rfl) ?_
 refine Qd (Qy ?_)
 refine ⟨_, Qp rfl rfl, ?_⟩
 refine ⟨cvB ?_, hX⟩
 all_goals (rfl)

theorem name_ok (β : Prop) (s : Str) (hs : s.length ≤ 4611686018427387904) (w : World) : Ok Tryz.prog 100 #[str s] w fun v w' => v = .bool (nmS s) ∧ Ext β w w' := by
 refine Qz 44 func100 rfl rfl rfl ?_
 have hX : Ext β w w := Bel.refl _ _
 refine Qe (Qc ?_)
 refine Rr Qm ?_
 refine Qd (Qe (Qe (Qc ?_)))
 refine Rr (Ql (v := str _) rfl) ?_
 refine Rr (o_slen underlying9 rfl) ?_
 refine Rr (Q0 rfl rfl) ?_
 refine Rr (mvB rfl) ?_
 refine Qq 3 9 rfl rfl rfl (fun hg => (Ql (v := str _) rfl)) ?_
 refine Qq 3 9 rfl rfl rfl (fun hg => (o_slen underlying9 (QE (u := undef) hg))) ?_
 refine Qq 3 9 rfl rfl rfl (fun hg => (o_gtr (QE (u := undef) hg) rfl)) ?_
 refine Rr (o_or (u := undef) rfl rfl) ?_
 refine Rr (mvB rfl) ?_
 refine Rg_split 14 rfl (fun hs1 => ?_) (fun hs1 => ?_)
 ·refine QW 8 14 rfl rfl (cvB hs1) rfl rfl ?_
  refine QW 8 14 rfl rfl (cvB hs1) rfl rfl ?_
  refine QW 8 14 rfl rfl (cvB hs1) rfl rfl ?_
  refine Rr (Zb (v := .bool _) (cvB hs1) rfl) ?_
  refine Qd ?_
  refine Q2 rfl ?_
  refine Qe (Qc ?_)
  refine Rr Qm ?_
  refine Qd (Qy ?_)
  refine ⟨_, Qp rfl rfl, ?_⟩
  refine ⟨cvB ?_, hX⟩
  all_goals (exact (nmS_pre hs1).symm)
 refine QF 8 14 rfl (cvB hs1) ?_
 refine Qo rfl (o_call0 call129) (Ok.mono (kw_ok (β) _) ?_)
 rintro _ w2 ⟨a15, c15, rfl, hs15, x3⟩
 replace hX := hX.ex x3
 refine QF 8 14 rfl (cvB hs1) ?_
 refine Rr (Ql (v := str _) rfl) ?_
 refine QF 8 14 rfl (cvB hs1) ?_
 refine Qo rfl (QM call128 rfl rfl) (Ok.mono (scontains_ok (β) _ _ _ _ _ _ hs15) ?_)
 rintro _ w4 ⟨rfl, x5⟩
 replace hX := hX.ex x5
 refine Rr (Q3 (v := .bool _) (cvB hs1) rfl) ?_
 refine Qd ?_
 refine QD rfl (fun hc2 => ?_) (fun hc2 => ?_)
 ·first | replace hc2 := dcT hc2 | replace hc2 := bnot_t hc2 | skip
  refine Qe (Qc ?_)
  refine Rr Qm ?_
  refine Qd (Qy ?_)
  refine ⟨_, Qp rfl rfl, ?_⟩
  refine ⟨cvB ?_, hX⟩
  all_goals (exact (nmS_kw hc2).symm)
 first | replace hc2 := dcF hc2 | replace hc2 := bnot_f hc2 | skip
 refine Qu (Qe (Qc ?_))
 refine Rg_alst rfl rfl zeroValue212 rfl sizeOf212 (fun _ => rfl) rfl rfl ?_
 intro b3 w6 x7 hge3 hb3
 replace hX := hX.ex x7
 refine Qd (Qe (Qc ?_))
 refine Rr (o_fn1 rfl) ?_
 refine Rr (Qv (v := .func _ _ _) rfl) ?_
 refine Qd (Qe (Qe (Qc ?_)))
 refine Rr (Ql (v := str _) rfl) ?_
 refine Rr (o_slen underlying9 rfl) ?_
 refine Rr QT ?_
 refine Qd (QB ?_)
 refine Za (α := Nat) [(2, 2), (5, 5), (22, 43)] (fun k => [(22, .int .i64 (k : Int))]) (fun k w' => (k ≤ s.length ∧ ∀ i, i < k → okAt s i = true) ∧ Ext β w6 w') (fun k => s.length - k) 0 ⟨rfl, trivial⟩ ⟨⟨by omega, fun i hi => absurd hi (Nat.not_lt_zero _)⟩, Bel.refl _ _⟩ ?_
 rintro k fb10 w9 ⟨⟨hk, hall⟩, hXL8⟩
 replace hX := hX.ex hXL8
 replace hb3 := hb3.ext hXL8
 refine Qe (Qc ?_)
 refine Rr (QQ rfl rfl) ?_
 refine Qd (Qe ?_)
 refine QD rfl (fun hc3 => ?_) (fun hc3 => ?_)
 ·first | replace hc3 := dcT hc3 | replace hc3 := bnot_t hc3 | skip
  refine Qu (Qe (QB (Qe (Qc ?_))))
  refine Rr (mvI rfl) ?_
  refine Rr (asI rfl) ?_
  refine Qd (Qe ?_)
  apply W_draw (β := β) [peq _, peq _, peq _, peq _, peq _, peq _, peq _, peq _, peq _, peq _, peq _, peq _, peq _, peq _, peq _, peq _, peq _, peq _] 18 Q9 (by kernel_rfl) rfl ⟨Qf _, Qf _, Qf _, Qf _, Qf _, Qf _, Qf _, Qf _, Qf _, Qf _, Qf _, Qf _, Qf _, Qf _, Qf _, Qf _, Qf _, Qf _, trivial⟩ ?ob8 ?fin8
  case ob8 =>
   refine Qh (fun w11 x12 => ?_) ?_
   ·refine Qg ?_
    exact Qt rfl (Ql (v := .func _ _ _) rfl)
   refine Qh (fun w13 x14 => ?_) ?_
   ·refine Qg ?_
    exact Qt rfl (Ql (v := str _) rfl)
   refine Qh (fun w15 x16 => ?_) ?_
   ·refine Qg ?_
    exact Qt rfl (mvI rfl)
   refine Qh (fun w17 x18 => ?_) ?_
   ·refine Qa (Qa (Qg ?_))
    exact Qt rfl (o_sidx underlying9 rfl rfl omg)
   refine Qh (fun w19 x20 => ?_) ?_
   ·have hb3 := hb3.ext x20
    refine Qa (Qa (Qg ?_))
    exact OpS_call rfl (o_clo1 call131 rfl rfl) (inner_ok (β) _ _ _ hb3.at)
   refine Qh (fun w21 x22 => ?_) ?_
   ·refine Qa (Qg ?_)
    exact Qt rfl (Q5 rfl)
   refine Qh (fun w23 x24 => ?_) ?_
   ·refine Qa (Qa (Qg ?_))
    exact Qt rfl (mvB rfl)
   refine Qh (fun w25 x26 => ?_) ?_
   ·refine Qa (Qg ?_)
    exact QN 6 31 rfl rfl (fun hg => (mvI rfl))
   refine Qh (fun w27 x28 => ?_) ?_
   ·refine Qa (Qa (Qg ?_))
    exact QN 6 31 rfl rfl (fun hg => (Q0 (QE (u := undef) hg) rfl))
   refine Qh (fun w29 x30 => ?_) ?_
   ·refine Qa (Qa (Qa (Qg ?_)))
    exact QN 6 31 rfl rfl (fun hg => (Ql (v := .bool _) (QE (u := undef) hg)))
   refine Qh (fun w31 x32 => ?_) ?_
   ·have hb3 := hb3.ext x32
    refine Qa (Qg ?_)
    exact QR 9 34 rfl rfl (fun hg => (Qn isAgg212 rfl (hb3.at.get 0 rfl)))
   refine Qh (fun w33 x34 => ?_) ?_
   ·refine Qa (Qg ?_)
    exact QR 9 34 rfl rfl (fun hg => (Ql (v := str _) rfl))
   refine Qh (fun w35 x36 => ?_) ?_
   ·refine Qa (Qg ?_)
    exact QR 9 34 rfl rfl (fun hg => (mvI rfl))
   refine Qh (fun w37 x38 => ?_) ?_
   ·refine Qa (Qa (Qa (Qg ?_)))
    exact QR 9 34 rfl rfl (fun hg => (o_sidx underlying9 (QE (u := undef) hg) (QE (u := undef) hg) omg))
   refine Qh (fun w39 x40 => ?_) ?_
   ·refine Qa (Qa (Qa (Qa (Qg ?_))))
    exact OpS_mayCall2 9 34 rfl rfl (fun hg => ⟨(o_clo1 call130 (QE (u := undef) hg) (QE (u := undef) hg)), letter_ok (β) _ _⟩)
   refine Qh (fun w41 x42 => ?_) ?_
   ·refine Qa (Qa (Qg ?_))
    exact QR 9 34 rfl rfl (fun hg => (Q5 (QE (u := undef) hg)))
   refine Qh (fun w43 x44 => ?_) ?_
   ·refine Qa (Qa (Qa (Qg ?_)))
    exact QN 6 31 rfl rfl (fun hg => (o_and (u := undef) (QE (u := undef) hg) (gand (u := undef) hg)))
   refine Qh (fun w45 x46 => ?_) ?_
   ·refine Qa (Qa (Qg ?_))
    exact Qt rfl (o_or (u := undef) rfl rfl)
   exact Q7
  case fin8 =>
   intro w47 x48
   replace hX := hX.ex x48
   replace hXL8 := Bel.ex hXL8 x48
   refine Qa (Qa (Qa (Qa (Qa (Qa (Qa (Qa (Qa ?_))))))))
   refine Qa (Qa (Qa (Qa (Qa (Qa (Qa (Qa (Qa ?_))))))))
   refine Qg (Qd ?_)
   refine QD rfl (fun hc4 => ?_) (fun hc4 => ?_)
   ·first | replace hc4 := dcT hc4 | replace hc4 := bnot_t hc4 | skip
    refine Qe (Qc ?_)
    refine Rr Qm ?_
    refine Qd (Qy ?_)
    refine ⟨_, Qp rfl rfl, ?_⟩
    refine ⟨cvB ?_, hX⟩
    all_goals (exact (nmS_no (k := k) (by omega) (by rw [okAt, hc4]; rfl)).symm)
   first | replace hc4 := dcF hc4 | replace hc4 := bnot_f hc4 | skip
   refine Qu (Qc ?_)
   refine Rr (Q6 rfl rfl omg) ?_
   refine Rr (mvI rfl) ?_
   refine Qd ?_
   refine ⟨k + 1, ⟨sT, trivial⟩, oT, ⟨?_, hXL8⟩, ?_⟩
   ·exact ⟨by omega, okAt_succ hall (by rw [okAt, hc4]; rfl)⟩
   ·omega
 first | replace hc3 := dcF hc3 | replace hc3 := bnot_f hc3 | skip
 refine QS (QL (Qe (Qc ?_)))
 refine Rr Qm ?_
 refine Qd (Qy ?_)
 refine ⟨_, Qp rfl rfl, ?_⟩
 refine ⟨cvB ?_, hX⟩
 all_goals (rw [nmS_of (by omega) hk hall hs1, hc2]; rfl)

