/- Walks: what functions return. -/
import Derived.Test.YtjnjalalkbamkaaGreatDoorWcg8
import Derived.Test.YtjnjalalkbamkaaGreatDoorWset5
import Derived.Test.YtjnjalalkbamkaaGreatDoorSe
set_option linter.unusedVariables false
set_option linter.unusedSimpArgs false
set_option linter.unnecessarySimpa false
namespace Go.Proofs.YtjnjalalkbamkaaGreatDoor
open Go Go.Lx Go.RowKit Tryz
set_option maxRecDepth 100000
theorem muntilA_ok (v0 : Value) (k : Nat) (o : Itm) (w : World) (hb0 : MbIs w v0 mbL) (h : FinS k o) : Ok Tryz.prog 56 #[v0, .int .i64 o.u, .int .i64 o.r] w fun v w' => v = .tuple #[.int .i64 20, .bool true] ∧ Ext False w w' := by
 have q := muntil_ok v0 mbL w hb0 (mbL_ok 3 (Nat.le_refl _)) o.u o.r h.u h.r h.f
 rw [h.t] at q
 exact q
theorem cofA_ok (v0 : Value) (w : World) (hl : Rd encCo 8 (Lt w.heap.size) w v0 opsL) : Ok Tryz.prog 57 #[v0] w fun v w' => (∃ a c X, v = .tuple #[.agg #[.slice a (X : List COp).length c], .int .i64 0] ∧ X.length = 3 ∧ Sl encCo 8 (Fsh w w') w' a c X) ∧ Ext False w w' := by
 refine (cof_ok w v0 opsL hl (by decide) ops_ok).mono ?_
 rintro _ w' ⟨⟨a, c, rfl, h⟩, x⟩
 rw [ops_of.1]
 exact ⟨⟨a, c, _, rfl, ops_of.2, h⟩, x⟩
set_option maxHeartbeats 4000000 in
theorem cset_ok (v0 : Value) (D : Nat → Prop) (b : Nat) (p : PtV) (w : World) (hc : CpIs 73 D w v0 awD) (hb : At w b 0 (ptC p)) (hp : PtIs w p 3 2 mbL) : Ok Tryz.prog 18 #[v0, pB b] w fun v w' => (∃ a c X, v = .tuple #[.agg #[.slice a (X : List COp).length c], .int .i64 0] ∧ X.length = 3 ∧ Sl encCo 8 (Lt w'.heap.size) w' a c X) ∧ Ext False w w' := by
 obtain ⟨bc, uc, rfl, hDb, hbc, a1, c1, rfl, hi⟩ := hc
 have hbl := hb.lt; have hbcl := hbc.lt
 replace hi := hi.mono (F' := fun g => g < w.heap.size) (fun g h1 h2 => h1)
 have hE : Bel False NoB w w := Bel.refl _ _
 refine Qz 64 func18 rfl rfl rfl ?_
 have hX := xRf w
 refine Qe (Qc ?_)
 refine QJ rfl (Zh zeroValue62) ?_
 intro b4 w1 x2 hge4 hb4
 have hlt4 := hb4.lt
 change Box _ _ _ ([.slice _ _ _]) at hb4
 have z3 := x2.size
 replace hX := hX.ex x2
 replace hbc := hbc.ext x2
 replace hi := hi.ext x2
 replace hE := Bel.ex hE x2
 refine Rr Qm ?_
 refine Qd (Qe (Qe (Qc ?_)))
 refine Rr (Ql (v := .pointer _) rfl) ?_
 refine Rr (o_peq underlying32 rfl rfl) ?_
 refine Rr (mvB rfl) ?_
 refine QF 2 14 rfl rfl ?_
 refine Rr (Ql (v := .pointer _) rfl) ?_
 refine QF 2 14 rfl rfl ?_
 refine Rr (o_peq underlying40 rfl rfl) ?_
 refine Rr (Q3 (v := .bool _) rfl rfl) ?_
 refine Qd ?_
 refine Qr rfl ?_
 refine Qu (Qe (Qe (Qc ?_)))
 refine Rr (Ql (v := .pointer _) rfl) ?_
 refine Qo rfl (QA call17 rfl) (Ok.mono (cfin_ok bc awD a1 c1 _ _ hbc hi) ?_)
 rintro _ w4 ⟨rfl, x5⟩
 have z6 := x5.size
 replace hX := hX.ex x5
 replace hbc := hbc.ext x5
 replace hi := hi.ext x5
 replace hE := Bel.ex hE x5
 replace hb4 := hb4.ext x5
 refine Rr (Q5 rfl) ?_
 refine Qd ?_
 refine Qr (cvB (by decide)) ?_
 refine Qu (Qe (Qc ?_))
 refine Rr (Ql (v := .pointer _) rfl) ?_
 refine Qo rfl (QA call37 rfl) (Ok.mono (sparts_ok b p _ (hb.ext hE) hp.orl) ?_)
 rintro _ w7 ⟨⟨a24, rfl⟩, x8⟩
 have z9 := x8.size
 replace hX := hX.ex x8
 replace hbc := hbc.ext x8
 replace hi := hi.ext x8
 replace hE := Bel.ex hE x8
 replace hb4 := hb4.ext x8
 refine Rr (o_field1 underlying91 rfl isAgg85 sizeOf85 rfl rfl) ?_
 refine Rr (Qv (v := .pointer _) rfl) ?_
 refine Qd (Qe (Qc ?_))
 refine Rr Qm ?_
 refine Qd (Qe (Qe (Qc ?_)))
 refine Rr (Ql (v := .pointer _) rfl) ?_
 refine Rr (QG rfl) ?_
 refine Rr (Qx underlying73 rfl sizeOf53 rfl) ?_
 refine Rr (Qn isAgg53 rfl (hbc.at.get 5 rfl)) ?_
 refine Rr (QK underlying53 rfl) ?_
 refine Rr QT ?_
 refine Qd (QB ?_)
 refine Za (α := Nat × Value) [(7, 7), (9, 11), (31, 59)] (fun q => [(31, .int .i64 (q.1 : Int)), (7, q.2)]) (fun q w' => (q.1 ≤ awD.l.length) ∧ Bel False (fun g => w.heap.size ≤ g ∧ g ≠ b4) w7 w' ∧ (Own encCo 8 121 (fun g => w.heap.size ≤ g ∧ g ≠ b4) w' q.2 (opsL.take q.1))) (fun q => awD.l.length - q.1) (0, .slice none 0 0) ⟨rfl, rfl, trivial⟩ ⟨Nat.zero_le _, Bel.refl _ _, Own.nil _ _⟩ ?_
 rintro ⟨k, t⟩ fb12 w11 ⟨hk, hXL10, hown⟩
 dsimp only at *
 have z13 := Bel.size hXL10
 replace hX := Bel.out hX hXL10 om2
 replace hi := hi.keep hXL10 om3
 replace hE := Bel.out hE hXL10 om2
 replace hb4 := hb4.keep hXL10 om1
 refine Qe (Qc ?_)
 refine Rr (QQ rfl rfl) ?_
 refine Qd (Qe ?_)
 refine QD rfl (fun hc3 => ?_) (fun hc3 => ?_)
 ·have hk1 : k < awD.l.length := by have := dcT hc3; omega
  have hk3 : k < 3 := hk1
  refine Qu (Qe (QB (Qe (Qc ?_))))
  refine Rr (Zg underlying53 sizeOf56 hi rfl rfl omg) ?_
  refine Rr (o_ldRS isAgg56 sizeOf56 hi rfl (getE itz hk1)) ?_
  refine Rg_alst rfl rfl zeroValue56 rfl sizeOf56 (fun _ => rfl) rfl rfl ?_
  intro b9 w14 x15 hge9 hb9
  have hlt9 := hb9.lt
  change Box _ _ _ (encIp _) at hb9
  have z16 := x15.size
  replace hX := hX.ex x15
  replace hXL10 := Bel.ex hXL10 x15
  replace hE := Bel.ex hE x15
  replace hown := hown.ext x15
  refine Qd (Qe (Qc ?_))
  obtain ⟨o, ho⟩ : ∃ o, o = (awD.l.getD k itz) := ⟨_, rfl⟩
  have hfs : FinS k o := ho ▸ fin_step k hk3
  rw [← ho] at hb9
  refine Rr (Ql (v := .pointer _) rfl) ?_
  refine Rr (Qx underlying56 rfl sizeOf3 rfl) ?_
  refine Rr (Qn isAgg3 rfl (hb9.at.get 0 rfl)) ?_
  refine Rr (Qx underlying56 rfl sizeOf3 rfl) ?_
  refine Rr (Qn isAgg3 rfl (hb9.at.get 1 rfl)) ?_
  refine Qo rfl (o_call3 call56 rfl rfl rfl) (Ok.mono (muntilA_ok _ k o _ (hp.mb.ext hE) hfs) ?_)
  rintro _ w17 ⟨rfl, x18⟩
  have z19 := x18.size
  replace hX := hX.ex x18
  replace hXL10 := Bel.ex hXL10 x18
  replace hE := Bel.ex hE x18
  replace hown := hown.ext x18
  replace hb9 := hb9.ext x18
  refine Rr (Ql (v := .tuple _) rfl) ?_
  refine Rr (QH rfl rfl) ?_
  refine Rr (QH rfl rfl) ?_
  refine Rr (asI rfl) ?_
  refine Rr (asB rfl) ?_
  refine Qd (Qe (Qc ?_))
  refine Rr (mvB rfl) ?_
  refine Rr (mvB rfl) ?_
  refine QF 1 45 rfl rfl ?_
  refine Rr (Qx underlying56 rfl sizeOf54 rfl) ?_
  refine QF 1 45 rfl rfl ?_
  refine Rr (Qn isAgg54 rfl (hb9.at.get 3 rfl)) ?_
  refine QF 1 45 rfl rfl ?_
  refine Rr (Q0 rfl rfl) ?_
  refine Rr (Zb (v := .bool _) rfl rfl) ?_
  refine Qd ?_
  refine Q2 (cvB (beq_iff_eq.2 hfs.d)) ?_
  refine Qc ?_
  refine Rr (Ql (v := t) rfl) ?_
  refine Rr (Qx underlying56 rfl sizeOf3 rfl) ?_
  refine Rr (Qn isAgg3 rfl (hb9.at.get 0 rfl)) ?_
  refine Rr (Qx underlying56 rfl sizeOf3 rfl) ?_
  refine Rr (Qn isAgg3 rfl (hb9.at.get 1 rfl)) ?_
  refine Rr (mvI rfl) ?_
  refine Rr (QZ (cells := encCo ⟨false, 1, o.u, o.r, 20, pz⟩) (vs := [(1, .int _ _), (2, .int _ _), (3, .int _ _), (4, .int _ _)]) rfl (by kernel_rfl)) ?_
  refine Rg_bs (vs := [.agg _]) ([(⟨false, 1, o.u, o.r, 20, pz⟩ : COp)]) rfl encCo_ok el_co rfl rfl ⟨rfl, trivial⟩ rfl rfl rfl rfl ?_
  intro a57 w20 x21 hown57
  have z22 := x21.size
  replace hX := hX.ex x21
  replace hXL10 := Bel.ex hXL10 x21
  replace hE := Bel.ex hE x21
  replace hown := hown.ext x21
  replace hown57 := hown57.mono (D' := fun g => w.heap.size ≤ g ∧ g ≠ b4) (fun g h1 h2 => by omega)
  refine Rg_app rfl encCo_ok el_co rfl rfl hown (hown57.slA encCo_ok) rfl (by have : opsL.length = 3 := rfl; simp only [List.length_append, List.length_take, List.length_singleton]; omega) omU ?_
  intro v58 w23 x24 hown
  have z25 := x24.size
  replace hX := Bel.out hX x24 om2
  replace hXL10 := Bel.out hXL10 x24 om2
  replace hE := Bel.out hE x24 om2
  refine Rr (Qv (v := v58) rfl) ?_
  refine Qd (Qc ?_)
  refine Rr (Q6 rfl rfl (by have : awD.l.length = 3 := rfl; unfold I64; omega)) ?_
  refine Rr (mvI rfl) ?_
  refine Qd ?_
  refine ⟨(k + 1, v58), ⟨sT, sT, trivial⟩, oT, ⟨?_, hXL10, ?_⟩, ?_⟩
  ·show k + 1 ≤ awD.l.length; omega
  ·show Own _ _ _ _ _ _ (opsL.take (k + 1))
   rw [takeO hk3 hfs]; exact hown.mono (fun g h1 h2 => by omega)
  ·show awD.l.length - (k + 1) < awD.l.length - k; omega
 have hk1 : ¬ k < awD.l.length := by have := dcF hc3; omega
 refine QS (QL (Qe (Qc ?_)))
 have hka : ¬ k < 3 := hk1
 rw [List.take_of_length_le (show opsL.length ≤ k from Nat.le_of_not_lt hka)] at hown
 refine Rr (Ql (v := t) rfl) ?_
 refine Qo rfl (QA call57 rfl) (Ok.mono (cofA_ok _ _ (hown.trd encCo_ok)) ?_)
 rintro _ w26 ⟨⟨a61, c61, X61, rfl, hX361, hs61⟩, x27⟩
 have z28 := x27.size
 replace hX := hX.ex x27
 replace hE := Bel.ex hE x27
 replace hb4 := hb4.ext x27
 refine Rr (QH rfl rfl) ?_
 refine Rr (QH rfl rfl) ?_
 refine QX (v := .agg _) rfl sizeOf62 rfl rfl hb4 rfl rfl rfl ?_
 intro w29 c30 hb4
 change Box _ _ _ (wsS _ _ _) at hb4
 have z31 := Bel.size c30
 replace hX := Bel.out hX c30 om2
 replace hE := Bel.out hE c30 om2
 replace hs61 := hs61.keep c30 om3
 refine Rr (asI rfl) ?_
 refine Qd (Qy ?_)
 refine ⟨_, res_T (vs := [.agg _, .int _ _]) rfl ⟨rv_cellS isAgg62 sizeOf62 rfl hb4.at rfl, rfl, trivial⟩ (by simp), ?_⟩
 exact ⟨⟨a61, c61, X61, rfl, hX361, hs61.top⟩, hX⟩

