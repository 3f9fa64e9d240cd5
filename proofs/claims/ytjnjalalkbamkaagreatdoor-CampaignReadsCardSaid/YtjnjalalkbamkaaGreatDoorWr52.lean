/- Walks: what functions return. -/
import Derived.Test.YtjnjalalkbamkaaGreatDoorWwire
import Derived.Test.YtjnjalalkbamkaaGreatDoorCb
set_option linter.unusedVariables false
set_option linter.unusedSimpArgs false
set_option linter.unnecessarySimpa false
namespace Go.Proofs.YtjnjalalkbamkaaGreatDoor
open Go Go.Lx Go.RowKit Tryz
set_option maxRecDepth 100000
theorem el_ir : ElT Tryz.prog 22 29 4 32 (.agg #[.int .i64 0, .int .i64 0, .int .i64 0, .int .i64 0]) := ⟨underlying22, ⟨Tryz.t29, by kernel_rfl, rfl, rfl, rfl⟩, rfl, by decide, by decide⟩
theorem el_ip : ElT Tryz.prog 53 56 4 32 (.agg #[.int .i64 0, .int .i64 0, .int .i64 0, .int .u8 0]) := ⟨underlying53, ⟨Tryz.t56, by kernel_rfl, rfl, rfl, rfl⟩, rfl, by decide, by decide⟩
theorem r52item_ok (c : Cpg) (u : Value) (x : Itm) (w : World) : Ok Tryz.prog 29 #[.agg (cgC c u).toArray, .agg (encIr x).toArray] w fun v w' => v = .bool (decide (OkT c x)) ∧ Ext False w w' := by
 refine Qz 96 func29 rfl rfl rfl ?_
 have hX := xRf w
 refine Qe (Qc ?_)
 refine QJ rfl (Q4 (v := .agg _) rfl) ?_
 intro b2 w1 x2 hge2 hb2
 change Box _ _ _ (cgC _ _) at hb2
 replace hX := hX.ex x2
 refine QJ rfl (Q4 (v := .agg _) rfl) ?_
 intro b3 w3 x4 hge3 hb3
 change Box _ _ _ (encIr _) at hb3
 replace hX := hX.ex x4
 replace hb2 := hb2.ext x4
 refine Rr Qm ?_
 refine Qd (Qe (Qe (Qc ?_)))
 refine Rr (Qx underlying29 rfl sizeOf3 rfl) ?_
 refine Rr (Qn isAgg3 rfl (hb3.at.get 0 rfl)) ?_
 refine Rr (QQ rfl rfl) ?_
 refine Rr (mvB rfl) ?_
 refine Qq 3 8 rfl rfl rfl (fun hg => (Qx underlying29 rfl sizeOf3 rfl)) ?_
 refine Qq 3 8 rfl rfl rfl (fun hg => (Qn isAgg3 (QE (u := undef) hg) (hb3.at.get 0 rfl))) ?_
 refine Qq 3 8 rfl rfl rfl (fun hg => (o_gtr (QE (u := undef) hg) rfl)) ?_
 refine Rr (o_or (u := undef) rfl rfl) ?_
 refine Rr (mvB rfl) ?_
 refine Qq 8 13 rfl rfl rfl (fun hg => (Qx underlying29 rfl sizeOf3 rfl)) ?_
 refine Qq 8 13 rfl rfl rfl (fun hg => (Qn isAgg3 (QE (u := undef) hg) (hb3.at.get 1 rfl))) ?_
 refine Qq 8 13 rfl rfl rfl (fun hg => (QQ (QE (u := undef) hg) rfl)) ?_
 refine Rr (o_or (u := undef) rfl rfl) ?_
 refine Rr (mvB rfl) ?_
 refine Qq 13 18 rfl rfl rfl (fun hg => (Qx underlying29 rfl sizeOf3 rfl)) ?_
 refine Qq 13 18 rfl rfl rfl (fun hg => (Qn isAgg3 (QE (u := undef) hg) (hb3.at.get 1 rfl))) ?_
 refine Qq 13 18 rfl rfl rfl (fun hg => (o_gtr (QE (u := undef) hg) rfl)) ?_
 refine Rr (o_or (u := undef) rfl rfl) ?_
 refine Rr (mvB rfl) ?_
 refine Qq 18 23 rfl rfl rfl (fun hg => (Qx underlying29 rfl sizeOf3 rfl)) ?_
 refine Qq 18 23 rfl rfl rfl (fun hg => (Qn isAgg3 (QE (u := undef) hg) (hb3.at.get 2 rfl))) ?_
 refine Qq 18 23 rfl rfl rfl (fun hg => (QQ (QE (u := undef) hg) rfl)) ?_
 refine Rr (o_or (u := undef) rfl rfl) ?_
 refine Rr (mvB rfl) ?_
 refine Qq 23 28 rfl rfl rfl (fun hg => (Qx underlying29 rfl sizeOf3 rfl)) ?_
 refine Qq 23 28 rfl rfl rfl (fun hg => (Qn isAgg3 (QE (u := undef) hg) (hb3.at.get 2 rfl))) ?_
 refine Qq 23 28 rfl rfl rfl (fun hg => (o_gtr (QE (u := undef) hg) rfl)) ?_
 refine Rr (o_or (u := undef) rfl rfl) ?_
 refine Rr (mvB rfl) ?_
 refine Qq 28 33 rfl rfl rfl (fun hg => (Qx underlying29 rfl sizeOf3 rfl)) ?_
 refine Qq 28 33 rfl rfl rfl (fun hg => (Qn isAgg3 (QE (u := undef) hg) (hb3.at.get 3 rfl))) ?_
 refine Qq 28 33 rfl rfl rfl (fun hg => (QQ (QE (u := undef) hg) rfl)) ?_
 refine Rr (o_or (u := undef) rfl rfl) ?_
 refine Rr (mvB rfl) ?_
 refine Qq 33 38 rfl rfl rfl (fun hg => (Qx underlying29 rfl sizeOf3 rfl)) ?_
 refine Qq 33 38 rfl rfl rfl (fun hg => (Qn isAgg3 (QE (u := undef) hg) (hb3.at.get 3 rfl))) ?_
 refine Qq 33 38 rfl rfl rfl (fun hg => (o_gtr (QE (u := undef) hg) rfl)) ?_
 refine Rr (o_or (u := undef) rfl rfl) ?_
 refine Qd ?_
 refine QD rfl (fun hc1 => ?_) (fun hc1 => ?_)
 ·refine Qe (Qc ?_)
  refine Rr Qm ?_
  refine Qd (Qy ?_)
  refine ⟨_, Qp rfl rfl, ?_⟩
  refine ⟨cvB ?_, hX⟩
  all_goals (exact (decide_eq_false (fun h => by unfold OkT at h; simp at hc1; omega)).symm)
 refine Qu (Qe (Qe (Qc ?_)))
 refine Rr (Qx underlying29 rfl sizeOf3 rfl) ?_
 refine Rr (Qn isAgg3 rfl (hb3.at.get 0 rfl)) ?_
 refine Rr (Qx underlying29 rfl sizeOf3 rfl) ?_
 refine Rr (Qn isAgg3 rfl (hb3.at.get 2 rfl)) ?_
 refine Rr (Q0 rfl rfl) ?_
 refine Rr (mvB rfl) ?_
 refine Qq 5 48 rfl rfl rfl (fun hg => (Qx underlying29 rfl sizeOf3 rfl)) ?_
 refine Qq 5 48 rfl rfl rfl (fun hg => (Qn isAgg3 (QE (u := undef) hg) (hb3.at.get 0 rfl))) ?_
 refine Qq 5 48 rfl rfl rfl (fun hg => (Qx underlying24 rfl sizeOf3 rfl)) ?_
 refine Qq 5 48 rfl rfl rfl (fun hg => (Qn isAgg3 (QE (u := undef) hg) (hb2.at.get 3 rfl))) ?_
 refine Qq 5 48 rfl rfl rfl (fun hg => (Q0 (QE (u := undef) hg) (QE (u := undef) hg))) ?_
 refine Rr (o_or (u := undef) rfl rfl) ?_
 refine Rr (mvB rfl) ?_
 refine Qq 12 55 rfl rfl rfl (fun hg => (Qx underlying29 rfl sizeOf3 rfl)) ?_
 refine Qq 12 55 rfl rfl rfl (fun hg => (Qn isAgg3 (QE (u := undef) hg) (hb3.at.get 3 rfl))) ?_
 refine Qq 12 55 rfl rfl rfl (fun hg => (Q0 (QE (u := undef) hg) rfl)) ?_
 refine Qq 12 55 rfl rfl rfl (fun hg => (Ql (v := .bool _) (QE (u := undef) hg))) ?_
 refine Rg_may2 16 59 rfl rfl rfl (fun hg => (Qx underlying24 rfl sizeOf3 rfl)) ?_
 refine Rg_may2 16 59 rfl rfl rfl (fun hg => (Qn isAgg3 (QE (u := undef) hg) (hb2.at.get 0 rfl))) ?_
 refine Rg_may2 16 59 rfl rfl rfl (fun hg => (Qx underlying24 rfl sizeOf3 rfl)) ?_
 refine Rg_may2 16 59 rfl rfl rfl (fun hg => (Qn isAgg3 (QE (u := undef) hg) (hb2.at.get 1 rfl))) ?_
 refine Rg_may2 16 59 rfl rfl rfl (fun hg => (o_gtr (QE (u := undef) hg) (QE (u := undef) hg))) ?_
 refine Qq 12 55 rfl rfl rfl (fun hg => (o_and (u := undef) (QE (u := undef) hg) (gand (u := undef) hg))) ?_
 refine Rr (o_or (u := undef) rfl rfl) ?_
 refine Rr (mvB rfl) ?_
 refine Qq 24 67 rfl rfl rfl (fun hg => (Qx underlying29 rfl sizeOf3 rfl)) ?_
 refine Qq 24 67 rfl rfl rfl (fun hg => (Qn isAgg3 (QE (u := undef) hg) (hb3.at.get 3 rfl))) ?_
 refine Qq 24 67 rfl rfl rfl (fun hg => (Q0 (QE (u := undef) hg) rfl)) ?_
 refine Qq 24 67 rfl rfl rfl (fun hg => (Ql (v := .bool _) (QE (u := undef) hg))) ?_
 refine Rg_may2 28 71 rfl rfl rfl (fun hg => (Qx underlying24 rfl sizeOf3 rfl)) ?_
 refine Rg_may2 28 71 rfl rfl rfl (fun hg => (Qn isAgg3 (QE (u := undef) hg) (hb2.at.get 0 rfl))) ?_
 refine Rg_may2 28 71 rfl rfl rfl (fun hg => (Qx underlying24 rfl sizeOf3 rfl)) ?_
 refine Rg_may2 28 71 rfl rfl rfl (fun hg => (Qn isAgg3 (QE (u := undef) hg) (hb2.at.get 1 rfl))) ?_
 refine Rg_may2 28 71 rfl rfl rfl (fun hg => (o_leq (QE (u := undef) hg) (QE (u := undef) hg))) ?_
 refine Rg_may2 28 71 rfl rfl rfl (fun hg => (Ql (v := .bool _) (QE (u := undef) hg))) ?_
 refine Rg_may2 34 77 rfl rfl rfl (fun hg => (Qx underlying29 rfl sizeOf3 rfl)) ?_
 refine Rg_may2 34 77 rfl rfl rfl (fun hg => (Qn isAgg3 (QE (u := undef) hg) (hb3.at.get 2 rfl))) ?_
 refine Rg_may2 34 77 rfl rfl rfl (fun hg => (Qx underlying24 rfl sizeOf3 rfl)) ?_
 refine Rg_may2 34 77 rfl rfl rfl (fun hg => (Qn isAgg3 (QE (u := undef) hg) (hb2.at.get 3 rfl))) ?_
 refine Rg_may2 34 77 rfl rfl rfl (fun hg => (o_neq (QE (u := undef) hg) (QE (u := undef) hg))) ?_
 refine Rg_may2 28 71 rfl rfl rfl (fun hg => (o_or (u := undef) (QE (u := undef) hg) (gand (u := undef) hg))) ?_
 refine Qq 24 67 rfl rfl rfl (fun hg => (o_and (u := undef) (QE (u := undef) hg) (gand (u := undef) hg))) ?_
 refine Rr (o_or (u := undef) rfl rfl) ?_
 refine Qd ?_
 refine QD rfl (fun hc2 => ?_) (fun hc2 => ?_)
 ·refine Qe (Qc ?_)
  refine Rr Qm ?_
  refine Qd (Qy ?_)
  refine ⟨_, Qp rfl rfl, ?_⟩
  refine ⟨cvB ?_, hX⟩
  all_goals (exact (decide_eq_false (fun h => by unfold OkT at h; simp at hc2; omega)).symm)
 refine Qu (Qe (Qc ?_))
 refine Rr (Qx underlying29 rfl sizeOf3 rfl) ?_
 refine Rr (Qn isAgg3 rfl (hb3.at.get 3 rfl)) ?_
 refine Rr (o_gtr rfl rfl) ?_
 refine Rr (mvB rfl) ?_
 refine Qq 3 89 rfl rfl rfl (fun hg => (Qx underlying24 rfl sizeOf3 rfl)) ?_
 refine Qq 3 89 rfl rfl rfl (fun hg => (Qn isAgg3 (QE (u := undef) hg) (hb2.at.get 0 rfl))) ?_
 refine Qq 3 89 rfl rfl rfl (fun hg => (Qx underlying24 rfl sizeOf3 rfl)) ?_
 refine Qq 3 89 rfl rfl rfl (fun hg => (Qn isAgg3 (QE (u := undef) hg) (hb2.at.get 2 rfl))) ?_
 refine Qq 3 89 rfl rfl rfl (fun hg => (o_leq (QE (u := undef) hg) (QE (u := undef) hg))) ?_
 refine Rr (o_or (u := undef) rfl rfl) ?_
 refine Rr (asB rfl) ?_
 refine Qd (Qy ?_)
 refine ⟨_, Qp rfl rfl, ?_⟩
 refine ⟨cvB ?_, hX⟩
 all_goals (rw [Bool.eq_iff_iff]; simp at hc1 hc2 ⊢; unfold OkT; omega)

theorem r52fin_ok (c : Cpg) (a0 : Option Addr) (n0 : Nat) (G0 : Nat → Prop) (w : World) (hl : Sl encIr 4 G0 w a0 n0 c.l) : Ok Tryz.prog 31 #[.agg (cgC c (.slice a0 c.l.length n0)).toArray] w fun v w' => v = .bool (c.l.all fun x => decide (2 < x.d)) ∧ Ext False w w' := by
 have ml := hl.len
 replace hl := hl.mono (F' := fun g => g < w.heap.size) (fun g h1 h2 => h1)
 refine Qz 16 func31 rfl rfl rfl ?_
 have hX := xRf w
 refine Qe (Qc ?_)
 refine QJ rfl (Q4 (v := .agg _) rfl) ?_
 intro b1 w1 x2 hge1 hb1
 change Box _ _ _ (cgC _ _) at hb1
 replace hX := hX.ex x2
 replace hl := hl.ext x2
 refine Rr Qm ?_
 refine Qd (Qe (Qe (Qc ?_)))
 refine Rr (Qx underlying24 rfl sizeOf22 rfl) ?_
 refine Rr (Qn isAgg22 rfl (hb1.at.get 5 rfl)) ?_
 refine Rr (QK underlying22 rfl) ?_
 refine Rr QT ?_
 refine Qd (QB ?_)
 refine Za (α := Nat) [(2, 2), (4, 4), (8, 15)] (fun k => [(8, .int .i64 (k : Int))]) (fun k w' => (k ≤ c.l.length ∧ ∀ j, j < k → 2 < (c.l.getD j itz).d) ∧ Ext False w1 w') (fun k => c.l.length - k) 0 ⟨rfl, trivial⟩ ⟨⟨Nat.zero_le _, fun j h => absurd h (Nat.not_lt_zero _)⟩, Bel.refl _ _⟩ ?_
 rintro k fb5 w4 ⟨⟨hk, hall⟩, hXL3⟩
 replace hX := hX.ex hXL3
 replace hl := hl.ext hXL3
 refine Qe (Qc ?_)
 refine Rr (QQ rfl rfl) ?_
 refine Qd (Qe ?_)
 refine QD rfl (fun hc1 => ?_) (fun hc1 => ?_)
 ·have hk1 : k < c.l.length := by have := dcT hc1; omega
  refine Qu (Qe (QB (Qe (Qc ?_))))
  refine Rr (Zg underlying22 sizeOf29 hl rfl rfl omg) ?_
  refine Rr (o_ldRS isAgg29 sizeOf29 hl rfl (getE itz hk1)) ?_
  refine Rg_alst rfl rfl zeroValue29 rfl sizeOf29 (fun _ => rfl) rfl rfl ?_
  intro b4 w6 x7 hge4 hb4
  change Box _ _ _ (encIr _) at hb4
  replace hX := hX.ex x7
  replace hXL3 := Bel.ex hXL3 x7
  refine Qd (Qe (Qc ?_))
  refine Rr (Qx underlying29 rfl sizeOf3 rfl) ?_
  refine Rr (Qn isAgg3 rfl (hb4.at.get 3 rfl)) ?_
  refine Rr (o_leq rfl rfl) ?_
  refine Qd ?_
  refine QD rfl (fun hc2 => ?_) (fun hc2 => ?_)
  ·have he : (c.l.getD k itz).d ≤ 2 := dcT hc2
   refine Qe (Qc ?_)
   refine Rr Qm ?_
   refine Qd (Qy ?_)
   refine ⟨_, Qp rfl rfl, ?_⟩
   refine ⟨cvB ?_, hX⟩
   all_goals (exact (List.all_eq_false.2 ⟨_, gm hk1, by simpa using he⟩).symm)
  have he : ¬ (c.l.getD k itz).d ≤ 2 := dcF hc2
  refine Qu (Qc ?_)
  refine Rr (Q6 rfl rfl omg) ?_
  refine Rr (mvI rfl) ?_
  refine Qd ?_
  refine ⟨k + 1, ⟨sT, trivial⟩, oT, ⟨?_, hXL3⟩, ?_⟩
  ·exact ⟨by omega, fun j hj => (Nat.lt_succ_iff_lt_or_eq.1 hj).elim (hall j) (fun e => by rw [e]; omega)⟩
  ·omega
 have hk1 : ¬ k < c.l.length := by have := dcF hc1; omega
 refine QS (QL (Qe (Qc ?_)))
 refine Rr Qm ?_
 refine Qd (Qy ?_)
 refine ⟨_, Qp rfl rfl, ?_⟩
 refine ⟨cvB ?_, hX⟩
 all_goals (exact (List.all_eq_true.2 (all_gd (z := itz) fun j hj => decide_eq_true (hall j (by omega)))).symm)

set_option maxHeartbeats 2000000 in
theorem r52val_ok (c : Cpg) (a0 : Option Addr) (n0 : Nat) (G0 : Nat → Prop) (w : World) (hl : Sl encIr 4 G0 w a0 n0 c.l) : Ok Tryz.prog 7 #[.agg (cgC c (.slice a0 c.l.length n0)).toArray] w fun v w' => v = .bool (decide (VlC c)) ∧ Ext False w w' := by
 have ml := hl.len
 replace hl := hl.mono (F' := fun g => g < w.heap.size) (fun g h1 h2 => h1)
 refine Qz 91 func7 rfl rfl rfl ?_
 have hX := xRf w
 refine Qe (Qc ?_)
 refine QJ rfl (Q4 (v := .agg _) rfl) ?_
 intro b1 w1 x2 hge1 hb1
 have hlt1 := hb1.lt
 change Box _ _ _ (cgC _ _) at hb1
 have z3 := x2.size
 replace hX := hX.ex x2
 replace hl := hl.ext x2
 refine Rr Qm ?_
 refine Qd (Qe (Qe (Qc ?_)))
 refine Rr (Qx underlying24 rfl sizeOf3 rfl) ?_
 refine Rr (Qn isAgg3 rfl (hb1.at.get 0 rfl)) ?_
 refine Rr (QQ rfl rfl) ?_
 refine Rr (mvB rfl) ?_
 refine Qq 3 8 rfl rfl rfl (fun hg => (Qx underlying24 rfl sizeOf3 rfl)) ?_
 refine Qq 3 8 rfl rfl rfl (fun hg => (Qn isAgg3 (QE (u := undef) hg) (hb1.at.get 0 rfl))) ?_
 refine Qq 3 8 rfl rfl rfl (fun hg => (o_gtr (QE (u := undef) hg) rfl)) ?_
 refine Rr (o_or (u := undef) rfl rfl) ?_
 refine Rr (mvB rfl) ?_
 refine Qq 8 13 rfl rfl rfl (fun hg => (Qx underlying24 rfl sizeOf3 rfl)) ?_
 refine Qq 8 13 rfl rfl rfl (fun hg => (Qn isAgg3 (QE (u := undef) hg) (hb1.at.get 1 rfl))) ?_
 refine Qq 8 13 rfl rfl rfl (fun hg => (QQ (QE (u := undef) hg) rfl)) ?_
 refine Rr (o_or (u := undef) rfl rfl) ?_
 refine Rr (mvB rfl) ?_
 refine Qq 13 18 rfl rfl rfl (fun hg => (Qx underlying24 rfl sizeOf3 rfl)) ?_
 refine Qq 13 18 rfl rfl rfl (fun hg => (Qn isAgg3 (QE (u := undef) hg) (hb1.at.get 2 rfl))) ?_
 refine Qq 13 18 rfl rfl rfl (fun hg => (Qx underlying24 rfl sizeOf3 rfl)) ?_
 refine Qq 13 18 rfl rfl rfl (fun hg => (Qn isAgg3 (QE (u := undef) hg) (hb1.at.get 1 rfl))) ?_
 refine Qq 13 18 rfl rfl rfl (fun hg => (o_leq (QE (u := undef) hg) (QE (u := undef) hg))) ?_
 refine Rr (o_or (u := undef) rfl rfl) ?_
 refine Rr (mvB rfl) ?_
 refine Qq 20 25 rfl rfl rfl (fun hg => (Qx underlying24 rfl sizeOf3 rfl)) ?_
 refine Qq 20 25 rfl rfl rfl (fun hg => (Qn isAgg3 (QE (u := undef) hg) (hb1.at.get 2 rfl))) ?_
 refine Qq 20 25 rfl rfl rfl (fun hg => (o_gtr (QE (u := undef) hg) rfl)) ?_
 refine Rr (o_or (u := undef) rfl rfl) ?_
 refine Rr (mvB rfl) ?_
 refine Qq 25 30 rfl rfl rfl (fun hg => (Qx underlying24 rfl sizeOf3 rfl)) ?_
 refine Qq 25 30 rfl rfl rfl (fun hg => (Qn isAgg3 (QE (u := undef) hg) (hb1.at.get 3 rfl))) ?_
 refine Qq 25 30 rfl rfl rfl (fun hg => (QQ (QE (u := undef) hg) rfl)) ?_
 refine Rr (o_or (u := undef) rfl rfl) ?_
 refine Rr (mvB rfl) ?_
 refine Qq 30 35 rfl rfl rfl (fun hg => (Qx underlying24 rfl sizeOf3 rfl)) ?_
 refine Qq 30 35 rfl rfl rfl (fun hg => (Qn isAgg3 (QE (u := undef) hg) (hb1.at.get 3 rfl))) ?_
 refine Qq 30 35 rfl rfl rfl (fun hg => (o_gtr (QE (u := undef) hg) rfl)) ?_
 refine Rr (o_or (u := undef) rfl rfl) ?_
 refine Qd ?_
 refine QD rfl (fun hc1 => ?_) (fun hc1 => ?_)
 ·refine Qe (Qc ?_)
  refine Rr Qm ?_
  refine Qd (Qy ?_)
  refine ⟨_, Qp rfl rfl, ?_⟩
  refine ⟨cvB ?_, hX⟩
  all_goals (exact (decide_eq_false (fun h => by obtain ⟨h1, h2, h3, -⟩ := h; simp at hc1; omega)).symm)
 refine Qu (Qe (Qe (Qc ?_)))
 refine Rr (Qx underlying24 rfl sizeOf22 rfl) ?_
 refine Rr (Qn isAgg22 rfl (hb1.at.get 5 rfl)) ?_
 refine Rr (QK underlying22 rfl) ?_
 refine Rr QT ?_
 refine Qd (QB ?_)
 refine Za (α := Nat) [(2, 4), (43, 90)] (fun k => [(43, .int .i64 (k : Int))]) (fun k w' => (k ≤ c.l.length ∧ ∀ j, j < k → PrI c j) ∧ Ext False w1 w') (fun k => c.l.length - k) 0 ⟨rfl, trivial⟩ ⟨⟨Nat.zero_le _, fun j h => absurd h (Nat.not_lt_zero _)⟩, Bel.refl _ _⟩ ?_
 rintro k fb6 w5 ⟨⟨hk, hall⟩, hXL4⟩
 have z7 := Bel.size hXL4
 replace hX := hX.ex hXL4
 replace hl := hl.ext hXL4
 replace hb1 := hb1.ext hXL4
 refine Qe (Qc ?_)
 refine Rr (QQ rfl rfl) ?_
 refine Qd (Qe ?_)
 refine QD rfl (fun hc2 => ?_) (fun hc2 => ?_)
 ·have hk1 : k < c.l.length := by have := dcT hc2; omega
  refine Qu (Qe (QB (Qe (Qc ?_))))
  refine Rr (mvI rfl) ?_
  refine Rr (Zg underlying22 sizeOf29 hl rfl rfl omg) ?_
  refine Rr (o_ldRS isAgg29 sizeOf29 hl rfl (getE itz hk1)) ?_
  refine QJ rfl (Zh zeroValue29) ?_
  intro b4 w8 x9 hge4 hb4
  have hlt4 := hb4.lt
  change Box _ _ _ ([.int _ _, .int _ _, .int _ _, .int _ _]) at hb4
  have z10 := x9.size
  replace hX := hX.ex x9
  replace hXL4 := Bel.ex hXL4 x9
  replace hl := hl.ext x9
  replace hb1 := hb1.ext x9
  refine Rr (asI rfl) ?_
  refine QX (v := .agg _) rfl sizeOf29 rfl rfl hb4 rfl rfl rfl ?_
  intro w11 c12 hb4
  change Box _ _ _ (encIr _) at hb4
  have z13 := Bel.size c12
  replace hX := Bel.out hX c12 om2
  replace hXL4 := Bel.out hXL4 c12 om2
  replace hl := hl.keep c12 om3
  replace hb1 := hb1.keep c12 om1
  refine Qd (Qe (Qe (Qc ?_)))
  refine Rr (QO isAgg24 sizeOf24 rfl hb1.at rfl) ?_
  refine Rr (QO isAgg29 sizeOf29 rfl hb4.at rfl) ?_
  refine Qo rfl (QM call29 rfl rfl) (Ok.mono (r52item_ok c _ (c.l.getD k itz) _) ?_)
  rintro _ w14 ⟨rfl, x15⟩
  have z16 := x15.size
  replace hX := hX.ex x15
  replace hXL4 := Bel.ex hXL4 x15
  replace hl := hl.ext x15
  replace hb1 := hb1.ext x15
  replace hb4 := hb4.ext x15
  refine (Decidable.em (k = 0)).elim (fun hk0 => ?_) (fun hk0 => ?_)
  ·refine Rr (Q5 rfl) ?_
   refine Qd ?_
   refine QD rfl (fun hc3 => ?_) (fun hc3 => ?_)
   ·have hit : ¬ OkT c (c.l.getD k itz) := by simpa using hc3
    refine Qe (Qc ?_)
    refine Rr Qm ?_
    refine Qd (Qy ?_)
    refine ⟨_, Qp rfl rfl, ?_⟩
    refine ⟨cvB ?_, hX⟩
    all_goals (exact (decide_eq_false (fun h => hit (((chI_pr c).1 h.2.2.2 k hk1).1))).symm)
   have hit : OkT c (c.l.getD k itz) := by simpa using hc3
   refine Qu (Qe ?_)
   apply W_draw (β := False) [peq _, peq _, peq _, peq _, peq _, peq _, peq _, peq _, peq _, peq _, peq _, peq _, peq _, peq _, peq _, peq _, peq _, peq _, peq _, peq _, peq _, peq _, peq _, peq _, peq _, peq _, peq _, peq _, peq _, peq _, peq _, peq _, peq _, peq _, peq _, peq _, peq _, peq _] 38 Q9 (by kernel_rfl) rfl ⟨Qf _, Qf _, Qf _, Qf _, Qf _, Qf _, Qf _, Qf _, Qf _, Qf _, Qf _, Qf _, Qf _, Qf _, Qf _, Qf _, Qf _, Qf _, Qf _, Qf _, Qf _, Qf _, Qf _, Qf _, Qf _, Qf _, Qf _, Qf _, Qf _, Qf _, Qf _, Qf _, Qf _, Qf _, Qf _, Qf _, Qf _, Qf _, trivial⟩ ?ob8 ?fin8
   case ob8 =>
    refine Qh (fun w17 x18 => ?_) ?_
    ·have z19 := x18.size
     refine Qg ?_
     exact Qt rfl (mvI rfl)
    refine Qh (fun w20 x21 => ?_) ?_
    ·have z22 := x21.size
     refine Qa (Qg ?_)
     exact Qt rfl (o_gtr rfl rfl)
    refine Qh (fun w23 x24 => ?_) ?_
    ·have z25 := x24.size
     refine Qa (Qg ?_)
     exact Qt rfl (mvB rfl)
    refine Qh (fun w26 x27 => ?_) ?_
    ·have z28 := x27.size
     refine Qa (Qg ?_)
     exact OpS_off 2 54 rfl (cvB (decide_eq_false (by omega))) rfl
    refine Qh (fun w29 x30 => ?_) ?_
    ·have z31 := x30.size
     refine Qa (Qa (Qg ?_))
     exact OpS_off 2 54 rfl (cvB (decide_eq_false (by omega))) rfl
    refine Qh (fun w32 x33 => ?_) ?_
    ·have z34 := x33.size
     refine Qa (Qg ?_)
     exact OpS_off 2 54 rfl (cvB (decide_eq_false (by omega))) rfl
    refine Qh (fun w35 x36 => ?_) ?_
    ·have z37 := x36.size
     refine Qa (Qa (Qg ?_))
     exact OpS_off 2 54 rfl (cvB (decide_eq_false (by omega))) rfl
    refine Qh (fun w38 x39 => ?_) ?_
    ·have z40 := x39.size
     refine Qa (Qa (Qa (Qg ?_)))
     exact OpS_off 2 54 rfl (cvB (decide_eq_false (by omega))) rfl
    refine Qh (fun w41 x42 => ?_) ?_
    ·have z43 := x42.size
     refine Qa (Qa (Qg ?_))
     exact OpS_off 2 54 rfl (cvB (decide_eq_false (by omega))) rfl
    refine Qh (fun w44 x45 => ?_) ?_
    ·have z46 := x45.size
     refine Qa (Qa (Qg ?_))
     exact OpS_off 2 54 rfl (cvB (decide_eq_false (by omega))) rfl
    refine Qh (fun w47 x48 => ?_) ?_
    ·have z49 := x48.size
     refine Qa (Qg ?_)
     exact OpS_off 2 54 rfl (cvB (decide_eq_false (by omega))) rfl
    refine Qh (fun w50 x51 => ?_) ?_
    ·have z52 := x51.size
     refine Qa (Qa (Qg ?_))
     exact OpS_off 2 54 rfl (cvB (decide_eq_false (by omega))) rfl
    refine Qh (fun w53 x54 => ?_) ?_
    ·have z55 := x54.size
     refine Qa (Qa (Qa (Qg ?_)))
     exact OpS_off 2 54 rfl (cvB (decide_eq_false (by omega))) rfl
    refine Qh (fun w56 x57 => ?_) ?_
    ·have z58 := x57.size
     refine Qa (Qa (Qa (Qg ?_)))
     exact OpS_off 2 54 rfl (cvB (decide_eq_false (by omega))) rfl
    refine Qh (fun w59 x60 => ?_) ?_
    ·have z61 := x60.size
     refine Qa (Qg ?_)
     exact OpS_offU 13 65 rfl rfl
    refine Qh (fun w62 x63 => ?_) ?_
    ·have z64 := x63.size
     refine Qa (Qa (Qg ?_))
     exact OpS_offU 13 65 rfl rfl
    refine Qh (fun w65 x66 => ?_) ?_
    ·have z67 := x66.size
     refine Qa (Qg ?_)
     exact OpS_offU 13 65 rfl rfl
    refine Qh (fun w68 x69 => ?_) ?_
    ·have z70 := x69.size
     refine Qa (Qa (Qg ?_))
     exact OpS_offU 13 65 rfl rfl
    refine Qh (fun w71 x72 => ?_) ?_
    ·have z73 := x72.size
     refine Qa (Qa (Qa (Qg ?_)))
     exact OpS_offU 13 65 rfl rfl
    refine Qh (fun w74 x75 => ?_) ?_
    ·have z76 := x75.size
     refine Qa (Qa (Qg ?_))
     exact OpS_offU 13 65 rfl rfl
    refine Qh (fun w77 x78 => ?_) ?_
    ·have z79 := x78.size
     refine Qa (Qa (Qg ?_))
     exact OpS_offU 13 65 rfl rfl
    refine Qh (fun w80 x81 => ?_) ?_
    ·have z82 := x81.size
     refine Qa (Qg ?_)
     exact OpS_offU 13 65 rfl rfl
    refine Qh (fun w83 x84 => ?_) ?_
    ·have z85 := x84.size
     refine Qa (Qa (Qg ?_))
     exact OpS_offU 13 65 rfl rfl
    refine Qh (fun w86 x87 => ?_) ?_
    ·have z88 := x87.size
     refine Qa (Qa (Qa (Qg ?_)))
     exact OpS_offU 13 65 rfl rfl
    refine Qh (fun w89 x90 => ?_) ?_
    ·have z91 := x90.size
     refine Qa (Qa (Qa (Qg ?_)))
     exact OpS_offU 13 65 rfl rfl
    refine Qh (fun w92 x93 => ?_) ?_
    ·have z94 := x93.size
     refine Qa (Qg ?_)
     exact OpS_offU 24 76 rfl rfl
    refine Qh (fun w95 x96 => ?_) ?_
    ·have z97 := x96.size
     refine Qa (Qa (Qg ?_))
     exact OpS_offU 24 76 rfl rfl
    refine Qh (fun w98 x99 => ?_) ?_
    ·have z100 := x99.size
     refine Qa (Qg ?_)
     exact OpS_offU 24 76 rfl rfl
    refine Qh (fun w101 x102 => ?_) ?_
    ·have z103 := x102.size
     refine Qa (Qa (Qg ?_))
     exact OpS_offU 24 76 rfl rfl
    refine Qh (fun w104 x105 => ?_) ?_
    ·have z106 := x105.size
     refine Qa (Qa (Qa (Qg ?_)))
     exact OpS_offU 24 76 rfl rfl
    refine Qh (fun w107 x108 => ?_) ?_
    ·have z109 := x108.size
     refine Qa (Qa (Qg ?_))
     exact OpS_offU 24 76 rfl rfl
    refine Qh (fun w110 x111 => ?_) ?_
    ·have z112 := x111.size
     refine Qa (Qa (Qg ?_))
     exact OpS_offU 24 76 rfl rfl
    refine Qh (fun w113 x114 => ?_) ?_
    ·have z115 := x114.size
     refine Qa (Qg ?_)
     exact OpS_offU 24 76 rfl rfl
    refine Qh (fun w116 x117 => ?_) ?_
    ·have z118 := x117.size
     refine Qa (Qa (Qg ?_))
     exact OpS_offU 24 76 rfl rfl
    refine Qh (fun w119 x120 => ?_) ?_
    ·have z121 := x120.size
     refine Qa (Qa (Qa (Qg ?_)))
     exact OpS_offU 24 76 rfl rfl
    refine Qh (fun w122 x123 => ?_) ?_
    ·have z124 := x123.size
     refine Qa (Qa (Qa (Qg ?_)))
     exact OpS_offU 13 65 rfl rfl
    refine Qh (fun w125 x126 => ?_) ?_
    ·have z127 := x126.size
     refine Qa (Qa (Qa (Qg ?_)))
     exact OpS_off 2 54 rfl (cvB (decide_eq_false (by omega))) rfl
    refine Qh (fun w128 x129 => ?_) ?_
    ·have z130 := x129.size
     refine Qa (Qa (Qg ?_))
     exact Qt rfl (Q3 (v := .bool _) (cvB (decide_eq_false (by omega))) rfl)
    exact Q7
   case fin8 =>
    intro w131 x132
    have z133 := x132.size
    replace hX := hX.ex x132
    replace hXL4 := Bel.ex hXL4 x132
    refine Qa (Qa (Qa (Qa (Qa (Qa (Qa (Qa (Qa ?_))))))))
    refine Qa (Qa (Qa (Qa (Qa (Qa (Qa (Qa (Qa ?_))))))))
    refine Qa (Qa (Qa (Qa (Qa (Qa (Qa (Qa (Qa ?_))))))))
    refine Qa (Qa (Qa (Qa (Qa (Qa (Qa (Qa (Qa ?_))))))))
    refine Qa (Qa (Qg (Qd ?_)))
    refine Qr rfl ?_
    refine Qu (Qc ?_)
    refine Rr (Q6 rfl rfl omg) ?_
    refine Rr (mvI rfl) ?_
    refine Qd ?_
    refine ⟨k + 1, ⟨sT, trivial⟩, oT, ⟨?_, hXL4⟩, ?_⟩
    ·exact ⟨by omega, fun j hj => (Nat.lt_succ_iff_lt_or_eq.1 hj).elim (hall j) (fun e => by rw [e]; exact ⟨hit, fun h => absurd h (by omega)⟩)⟩
    ·omega
  refine Rr (Q5 rfl) ?_
  refine Qd ?_
  refine QD rfl (fun hc5 => ?_) (fun hc5 => ?_)
  ·have hit : ¬ OkT c (c.l.getD k itz) := by simpa using hc5
   refine Qe (Qc ?_)
   refine Rr Qm ?_
   refine Qd (Qy ?_)
   refine ⟨_, Qp rfl rfl, ?_⟩
   refine ⟨cvB ?_, hX⟩
   all_goals (exact (decide_eq_false (fun h => hit (((chI_pr c).1 h.2.2.2 k hk1).1))).symm)
  have hit : OkT c (c.l.getD k itz) := by simpa using hc5
  refine Qu (Qe ?_)
  apply W_draw (β := False) [peq _, peq _, peq _, peq _, peq _, peq _, peq _, peq _, peq _, peq _, peq _, peq _, peq _, peq _, peq _, peq _, peq _, peq _, peq _, peq _, peq _, peq _, peq _, peq _, peq _, peq _, peq _, peq _, peq _, peq _, peq _, peq _, peq _, peq _, peq _, peq _, peq _, peq _] 38 Q9 (by kernel_rfl) rfl ⟨Qf _, Qf _, Qf _, Qf _, Qf _, Qf _, Qf _, Qf _, Qf _, Qf _, Qf _, Qf _, Qf _, Qf _, Qf _, Qf _, Qf _, Qf _, Qf _, Qf _, Qf _, Qf _, Qf _, Qf _, Qf _, Qf _, Qf _, Qf _, Qf _, Qf _, Qf _, Qf _, Qf _, Qf _, Qf _, Qf _, Qf _, Qf _, trivial⟩ ?ob8 ?fin8
  case ob8 =>
   refine Qh (fun w134 x135 => ?_) ?_
   ·have z136 := x135.size
    refine Qg ?_
    exact Qt rfl (mvI rfl)
   refine Qh (fun w137 x138 => ?_) ?_
   ·have z139 := x138.size
    refine Qa (Qg ?_)
    exact Qt rfl (o_gtr rfl rfl)
   refine Qh (fun w140 x141 => ?_) ?_
   ·have z142 := x141.size
    refine Qa (Qg ?_)
    exact Qt rfl (mvB rfl)
   refine Qh (fun w143 x144 => ?_) ?_
   ·have z145 := x144.size
    refine Qa (Qg ?_)
    refine OpS_on 2 54 rfl (cvB (decide_eq_true (by omega))) ?_
    exact Qt rfl (Qx underlying24 rfl sizeOf22 rfl)
   refine Qh (fun w146 x147 => ?_) ?_
   ·have z148 := x147.size
    have hb1 := hb1.ext x147
    refine Qa (Qa (Qg ?_))
    refine OpS_on 2 54 rfl (cvB (decide_eq_true (by omega))) ?_
    exact Qt rfl (Qn isAgg22 rfl (hb1.at.get 5 rfl))
   refine Qh (fun w149 x150 => ?_) ?_
   ·have z151 := x150.size
    refine Qa (Qg ?_)
    refine OpS_on 2 54 rfl (cvB (decide_eq_true (by omega))) ?_
    exact Qt rfl (mvI rfl)
   refine Qh (fun w152 x153 => ?_) ?_
   ·have z154 := x153.size
    refine Qa (Qa (Qg ?_))
    refine OpS_on 2 54 rfl (cvB (decide_eq_true (by omega))) ?_
    exact Qt rfl (o_subN (p := k) (b := 1) rfl rfl (by omega) (by omega))
   refine Qh (fun w155 x156 => ?_) ?_
   ·have z157 := x156.size
    have hl := hl.ext x156
    refine Qa (Qa (Qa (Qg ?_)))
    refine OpS_on 2 54 rfl (cvB (decide_eq_true (by omega))) ?_
    exact Qt rfl (Zg underlying22 sizeOf29 hl rfl rfl omg)
   refine Qh (fun w158 x159 => ?_) ?_
   ·have z160 := x159.size
    have hl := hl.ext x159
    refine Qa (Qa (Qg ?_))
    refine OpS_on 2 54 rfl (cvB (decide_eq_true (by omega))) ?_
    exact Qt rfl (o_faE underlying29 rfl sizeOf3 hl rfl (getE itz (by omega)))
   refine Qh (fun w161 x162 => ?_) ?_
   ·have z163 := x162.size
    have hl := hl.ext x162
    refine Qa (Qa (Qg ?_))
    refine OpS_on 2 54 rfl (cvB (decide_eq_true (by omega))) ?_
    exact Qt rfl (o_ldE (j := 0) isAgg3 hl rfl (getE itz (by omega)) rfl)
   refine Qh (fun w164 x165 => ?_) ?_
   ·have z166 := x165.size
    refine Qa (Qg ?_)
    refine OpS_on 2 54 rfl (cvB (decide_eq_true (by omega))) ?_
    exact Qt rfl (Qx underlying29 rfl sizeOf3 rfl)
   refine Qh (fun w167 x168 => ?_) ?_
   ·have z169 := x168.size
    have hb4 := hb4.ext x168
    refine Qa (Qa (Qg ?_))
    refine OpS_on 2 54 rfl (cvB (decide_eq_true (by omega))) ?_
    exact Qt rfl (Qn isAgg3 rfl (hb4.at.get 0 rfl))
   refine Qh (fun w170 x171 => ?_) ?_
   ·have z172 := x171.size
    refine Qa (Qa (Qa (Qg ?_)))
    refine OpS_on 2 54 rfl (cvB (decide_eq_true (by omega))) ?_
    exact Qt rfl (o_gtr rfl rfl)
   refine Qh (fun w173 x174 => ?_) ?_
   ·have z175 := x174.size
    refine Qa (Qa (Qa (Qg ?_)))
    refine OpS_on 2 54 rfl (cvB (decide_eq_true (by omega))) ?_
    exact Qt rfl (mvB rfl)
   refine Qh (fun w176 x177 => ?_) ?_
   ·have z178 := x177.size
    refine Qa (Qg ?_)
    exact QN 13 65 rfl rfl (fun hg => (Qx underlying24 rfl sizeOf22 rfl))
   refine Qh (fun w179 x180 => ?_) ?_
   ·have z181 := x180.size
    have hb1 := hb1.ext x180
    refine Qa (Qa (Qg ?_))
    exact QN 13 65 rfl rfl (fun hg => (Qn isAgg22 (QE (u := undef) hg) (hb1.at.get 5 rfl)))
   refine Qh (fun w182 x183 => ?_) ?_
   ·have z184 := x183.size
    refine Qa (Qg ?_)
    exact QN 13 65 rfl rfl (fun hg => (mvI rfl))
   refine Qh (fun w185 x186 => ?_) ?_
   ·have z187 := x186.size
    refine Qa (Qa (Qg ?_))
    exact QN 13 65 rfl rfl (fun hg => (o_subN (p := k) (b := 1) (QE (u := undef) hg) rfl (by omega) (by omega)))
   refine Qh (fun w188 x189 => ?_) ?_
   ·have z190 := x189.size
    have hl := hl.ext x189
    refine Qa (Qa (Qa (Qg ?_)))
    exact QN 13 65 rfl rfl (fun hg => (Zg underlying22 sizeOf29 hl (QE (u := undef) hg) (QE (u := undef) hg) omg))
   refine Qh (fun w191 x192 => ?_) ?_
   ·have z193 := x192.size
    have hl := hl.ext x192
    refine Qa (Qa (Qg ?_))
    exact QN 13 65 rfl rfl (fun hg => (o_faE underlying29 rfl sizeOf3 hl (QE (u := undef) hg) (getE itz (by omega))))
   refine Qh (fun w194 x195 => ?_) ?_
   ·have z196 := x195.size
    have hl := hl.ext x195
    refine Qa (Qa (Qg ?_))
    exact QN 13 65 rfl rfl (fun hg => (o_ldE (j := 0) isAgg3 hl (QE (u := undef) hg) (getE itz (by omega)) rfl))
   refine Qh (fun w197 x198 => ?_) ?_
   ·have z199 := x198.size
    refine Qa (Qg ?_)
    exact QN 13 65 rfl rfl (fun hg => (Qx underlying29 rfl sizeOf3 rfl))
   refine Qh (fun w200 x201 => ?_) ?_
   ·have z202 := x201.size
    have hb4 := hb4.ext x201
    refine Qa (Qa (Qg ?_))
    exact QN 13 65 rfl rfl (fun hg => (Qn isAgg3 (QE (u := undef) hg) (hb4.at.get 0 rfl)))
   refine Qh (fun w203 x204 => ?_) ?_
   ·have z205 := x204.size
    refine Qa (Qa (Qa (Qg ?_)))
    exact QN 13 65 rfl rfl (fun hg => (Q0 (QE (u := undef) hg) (QE (u := undef) hg)))
   refine Qh (fun w206 x207 => ?_) ?_
   ·have z208 := x207.size
    refine Qa (Qa (Qa (Qg ?_)))
    exact QN 13 65 rfl rfl (fun hg => (Ql (v := .bool _) (QE (u := undef) hg)))
   refine Qh (fun w209 x210 => ?_) ?_
   ·have z211 := x210.size
    refine Qa (Qg ?_)
    exact QR 24 76 rfl rfl (fun hg => (Qx underlying24 rfl sizeOf22 rfl))
   refine Qh (fun w212 x213 => ?_) ?_
   ·have z214 := x213.size
    have hb1 := hb1.ext x213
    refine Qa (Qa (Qg ?_))
    exact QR 24 76 rfl rfl (fun hg => (Qn isAgg22 (QE (u := undef) hg) (hb1.at.get 5 rfl)))
   refine Qh (fun w215 x216 => ?_) ?_
   ·have z217 := x216.size
    refine Qa (Qg ?_)
    exact QR 24 76 rfl rfl (fun hg => (mvI rfl))
   refine Qh (fun w218 x219 => ?_) ?_
   ·have z220 := x219.size
    refine Qa (Qa (Qg ?_))
    exact QR 24 76 rfl rfl (fun hg => (o_subN (p := k) (b := 1) (QE (u := undef) hg) rfl (by omega) (by omega)))
   refine Qh (fun w221 x222 => ?_) ?_
   ·have z223 := x222.size
    have hl := hl.ext x222
    refine Qa (Qa (Qa (Qg ?_)))
    exact QR 24 76 rfl rfl (fun hg => (Zg underlying22 sizeOf29 hl (QE (u := undef) hg) (QE (u := undef) hg) omg))
   refine Qh (fun w224 x225 => ?_) ?_
   ·have z226 := x225.size
    have hl := hl.ext x225
    refine Qa (Qa (Qg ?_))
    exact QR 24 76 rfl rfl (fun hg => (o_faE underlying29 rfl sizeOf3 hl (QE (u := undef) hg) (getE itz (by omega))))
   refine Qh (fun w227 x228 => ?_) ?_
   ·have z229 := x228.size
    have hl := hl.ext x228
    refine Qa (Qa (Qg ?_))
    exact QR 24 76 rfl rfl (fun hg => (o_ldE (j := 1) isAgg3 hl (QE (u := undef) hg) (getE itz (by omega)) rfl))
   refine Qh (fun w230 x231 => ?_) ?_
   ·have z232 := x231.size
    refine Qa (Qg ?_)
    exact QR 24 76 rfl rfl (fun hg => (Qx underlying29 rfl sizeOf3 rfl))
   refine Qh (fun w233 x234 => ?_) ?_
   ·have z235 := x234.size
    have hb4 := hb4.ext x234
    refine Qa (Qa (Qg ?_))
    exact QR 24 76 rfl rfl (fun hg => (Qn isAgg3 (QE (u := undef) hg) (hb4.at.get 1 rfl)))
   refine Qh (fun w236 x237 => ?_) ?_
   ·have z238 := x237.size
    refine Qa (Qa (Qa (Qg ?_)))
    exact QR 24 76 rfl rfl (fun hg => (o_geq (QE (u := undef) hg) (QE (u := undef) hg)))
   refine Qh (fun w239 x240 => ?_) ?_
   ·have z241 := x240.size
    refine Qa (Qa (Qa (Qg ?_)))
    exact QN 13 65 rfl rfl (fun hg => (o_and (u := undef) (QE (u := undef) hg) (gand (u := undef) hg)))
   refine Qh (fun w242 x243 => ?_) ?_
   ·have z244 := x243.size
    refine Qa (Qa (Qa (Qg ?_)))
    refine OpS_on 2 54 rfl (cvB (decide_eq_true (by omega))) ?_
    exact Qt rfl (o_or (u := undef) rfl rfl)
   refine Qh (fun w245 x246 => ?_) ?_
   ·have z247 := x246.size
    refine Qa (Qa (Qg ?_))
    exact Qt rfl (Zb (v := .bool _) (cvB (decide_eq_true (by omega))) rfl)
   exact Q7
  case fin8 =>
   intro w248 x249
   have z250 := x249.size
   replace hX := hX.ex x249
   replace hXL4 := Bel.ex hXL4 x249
   refine Qa (Qa (Qa (Qa (Qa (Qa (Qa (Qa (Qa ?_))))))))
   refine Qa (Qa (Qa (Qa (Qa (Qa (Qa (Qa (Qa ?_))))))))
   refine Qa (Qa (Qa (Qa (Qa (Qa (Qa (Qa (Qa ?_))))))))
   refine Qa (Qa (Qa (Qa (Qa (Qa (Qa (Qa (Qa ?_))))))))
   refine Qa (Qa (Qg (Qd ?_)))
   refine QD rfl (fun hc6 => ?_) (fun hc6 => ?_)
   ·have hpr : ¬ PrI c k := fun h => by
     have q := hc6
     simp only [Bool.or_eq_true, Bool.and_eq_true, decide_eq_true_eq, beq_iff_eq] at q
     have h2 := h.2 (by omega)
     unfold LtI at h2
     omega
    refine Qe (Qc ?_)
    refine Rr Qm ?_
    refine Qd (Qy ?_)
    refine ⟨_, Qp rfl rfl, ?_⟩
    refine ⟨cvB ?_, hX⟩
    all_goals (exact (decide_eq_false (fun h => hpr ((chI_pr c).1 h.2.2.2 k hk1))).symm)
   have hpr : PrI c k := ⟨hit, fun _ => by
    have q := hc6
    simp only [Bool.or_eq_false_iff, Bool.and_eq_false_iff, decide_eq_false_iff_not, beq_eq_false_iff_ne] at q
    unfold LtI
    omega⟩
   refine Qu (Qc ?_)
   refine Rr (Q6 rfl rfl omg) ?_
   refine Rr (mvI rfl) ?_
   refine Qd ?_
   refine ⟨k + 1, ⟨sT, trivial⟩, oT, ⟨?_, hXL4⟩, ?_⟩
   ·exact ⟨by omega, fun j hj => (Nat.lt_succ_iff_lt_or_eq.1 hj).elim (hall j) (fun e => by rw [e]; exact hpr)⟩
   ·omega
 have hk1 : ¬ k < c.l.length := by have := dcF hc2; omega
 refine QS (QL (Qe (Qc ?_)))
 refine Rr Qm ?_
 refine Qd (Qy ?_)
 refine ⟨_, Qp rfl rfl, ?_⟩
 refine ⟨cvB ?_, hX⟩
 all_goals
  refine (decide_eq_true ?_).symm
  simp at hc1
  exact ⟨by omega, by omega, by omega, (chI_pr c).2 fun j hj => hall j (by omega)⟩

set_option maxHeartbeats 2000000 in
theorem r52bytes_ok (c : Cpg) (a0 : Option Addr) (n0 : Nat) (G0 : Nat → Prop) (w : World) (hl : Sl encIr 4 G0 w a0 n0 c.l) (hnb : c.nb) (hn : c.l.length ≤ 20000) : Ok Tryz.prog 5 #[.agg (cgC c (.slice a0 c.l.length n0)).toArray] w fun v w' => Own encB 1 5 (Fsh w w') w' v (cpB c) ∧ Ext False w w' := by
 have ml := hl.len
 replace hl := hl.mono (F' := fun g => g < w.heap.size) (fun g h1 h2 => h1)
 refine Qz 73 func5 rfl rfl rfl ?_
 have hX := xRf w
 refine Qe (Qc ?_)
 refine QJ rfl (Q4 (v := .agg _) rfl) ?_
 intro b1 w1 x2 hge1 hb1
 have hlt1 := hb1.lt
 change Box _ _ _ (cgC _ _) at hb1
 have z3 := x2.size
 replace hX := hX.ex x2
 replace hl := hl.ext x2
 refine Rr Qm ?_
 refine Qd (Qe (Qc ?_))
 obtain ⟨n1, hn1⟩ : ∃ n, n = w1.heap.size := ⟨_, rfl⟩
 refine Rr (Qx underlying24 rfl sizeOf3 rfl) ?_
 refine Rr (Qn isAgg3 rfl (hb1.at.get 0 rfl)) ?_
 refine Rr (o_convI underlying3 underlying67 rfl hnb.1.1 hnb.1.2) ?_
 refine Qo rfl (QA call20 rfl) (Ok.mono (rput_ok (iW c.day) _) ?_)
 rintro v9 w4 ⟨hown9, x5⟩
 have z6 := x5.size
 replace hX := hX.ex x5
 replace hl := hl.ext x5
 replace hb1 := hb1.ext x5
 replace hown9 := hown9.mono (D' := fun g => n1 ≤ g) (fun g h1 h2 => by omega)
 refine Rr (Qv (v := v9) rfl) ?_
 refine Qd (Qe (Qc ?_))
 refine Rr (Ql (v := v9) rfl) ?_
 refine Rr (Qx underlying24 rfl sizeOf3 rfl) ?_
 refine Rr (Qn isAgg3 rfl (hb1.at.get 1 rfl)) ?_
 refine Rr (o_convI underlying3 underlying67 rfl hnb.2.1.1 hnb.2.1.2) ?_
 refine Qo rfl (QA call20 rfl) (Ok.mono (rput_ok (iW c.dl) _) ?_)
 rintro v14 w7 ⟨hown14, x8⟩
 have z9 := x8.size
 replace hX := hX.ex x8
 replace hl := hl.ext x8
 replace hb1 := hb1.ext x8
 replace hown9 := hown9.ext x8
 replace hown14 := hown14.mono (D' := fun g => w.heap.size ≤ g) (fun g h1 h2 => by omega)
 obtain ⟨a14, c14, hv14, -⟩ := hown14.sl QI
 subst hv14
 refine Rg_app rfl QI el_b8 rfl rfl hown9 (hown14.slA QI) rfl (by have h1 := QP (iW c.day); have h2 := QP (iW c.dl); have h3 := QP (iW c.la); have h4 := QP (iW c.ch); have h5 := QP (BitVec.ofNat 64 c.l.length); (try simp only [List.length_append, List.length_cons, List.length_nil]); omega) omU ?_
 intro v15 w10 x11 hown9
 have z12 := x11.size
 replace hX := Bel.out hX x11 om2
 replace hl := hl.keep x11 om3
 replace hb1 := hb1.keep x11 om1
 refine Rr (Qv (v := v15) rfl) ?_
 refine Qd (Qe (Qc ?_))
 refine Rr (Ql (v := v15) rfl) ?_
 refine Rr (Qx underlying24 rfl sizeOf3 rfl) ?_
 refine Rr (Qn isAgg3 rfl (hb1.at.get 2 rfl)) ?_
 refine Rr (o_convI underlying3 underlying67 rfl hnb.2.2.1.1 hnb.2.2.1.2) ?_
 refine Qo rfl (QA call20 rfl) (Ok.mono (rput_ok (iW c.la) _) ?_)
 rintro v20 w13 ⟨hown20, x14⟩
 have z15 := x14.size
 replace hX := hX.ex x14
 replace hl := hl.ext x14
 replace hb1 := hb1.ext x14
 replace hown9 := hown9.ext x14
 replace hown20 := hown20.mono (D' := fun g => w.heap.size ≤ g) (fun g h1 h2 => by omega)
 obtain ⟨a20, c20, hv20, -⟩ := hown20.sl QI
 subst hv20
 refine Rg_app rfl QI el_b8 rfl rfl hown9 (hown20.slA QI) rfl (by have h1 := QP (iW c.day); have h2 := QP (iW c.dl); have h3 := QP (iW c.la); have h4 := QP (iW c.ch); have h5 := QP (BitVec.ofNat 64 c.l.length); (try simp only [List.length_append, List.length_cons, List.length_nil]); omega) omU ?_
 intro v21 w16 x17 hown9
 have z18 := x17.size
 replace hX := Bel.out hX x17 om2
 replace hl := hl.keep x17 om3
 replace hb1 := hb1.keep x17 om1
 refine Rr (Qv (v := v21) rfl) ?_
 refine Qd (Qe (Qc ?_))
 refine Rr (Ql (v := v21) rfl) ?_
 refine Rr (Qx underlying24 rfl sizeOf3 rfl) ?_
 refine Rr (Qn isAgg3 rfl (hb1.at.get 3 rfl)) ?_
 refine Rr (o_convI underlying3 underlying67 rfl hnb.2.2.2.1.1 hnb.2.2.2.1.2) ?_
 refine Qo rfl (QA call20 rfl) (Ok.mono (rput_ok (iW c.ch) _) ?_)
 rintro v26 w19 ⟨hown26, x20⟩
 have z21 := x20.size
 replace hX := hX.ex x20
 replace hl := hl.ext x20
 replace hb1 := hb1.ext x20
 replace hown9 := hown9.ext x20
 replace hown26 := hown26.mono (D' := fun g => w.heap.size ≤ g) (fun g h1 h2 => by omega)
 obtain ⟨a26, c26, hv26, -⟩ := hown26.sl QI
 subst hv26
 refine Rg_app rfl QI el_b8 rfl rfl hown9 (hown26.slA QI) rfl (by have h1 := QP (iW c.day); have h2 := QP (iW c.dl); have h3 := QP (iW c.la); have h4 := QP (iW c.ch); have h5 := QP (BitVec.ofNat 64 c.l.length); (try simp only [List.length_append, List.length_cons, List.length_nil]); omega) omU ?_
 intro v27 w22 x23 hown9
 have z24 := x23.size
 replace hX := Bel.out hX x23 om2
 replace hl := hl.keep x23 om3
 replace hb1 := hb1.keep x23 om1
 refine Rr (Qv (v := v27) rfl) ?_
 refine Qd (Qe (Qc ?_))
 refine Rr (Ql (v := v27) rfl) ?_
 refine Rr (Qx underlying24 rfl sizeOf4 rfl) ?_
 refine Rr (Qn isAgg4 rfl (hb1.at.get 4 rfl)) ?_
 refine Qo rfl (QA call21 rfl) (Ok.mono (rputf_ok c.kp _) ?_)
 rintro v31 w25 ⟨hown31, x26⟩
 have z27 := x26.size
 replace hX := hX.ex x26
 replace hl := hl.ext x26
 replace hb1 := hb1.ext x26
 replace hown9 := hown9.ext x26
 replace hown31 := hown31.mono (D' := fun g => w.heap.size ≤ g) (fun g h1 h2 => by omega)
 obtain ⟨a31, c31, hv31, -⟩ := hown31.sl QI
 subst hv31
 refine Rg_app rfl QI el_b8 rfl rfl hown9 (hown31.slA QI) rfl (by have h1 := QP (iW c.day); have h2 := QP (iW c.dl); have h3 := QP (iW c.la); have h4 := QP (iW c.ch); have h5 := QP (BitVec.ofNat 64 c.l.length); (try simp only [List.length_append, List.length_cons, List.length_nil]); omega) omU ?_
 intro v32 w28 x29 hown9
 have z30 := x29.size
 replace hX := Bel.out hX x29 om2
 replace hl := hl.keep x29 om3
 replace hb1 := hb1.keep x29 om1
 refine Rr (Qv (v := v32) rfl) ?_
 refine Qd (Qe (Qc ?_))
 refine Rr (Ql (v := v32) rfl) ?_
 refine Rr (Qx underlying24 rfl sizeOf22 rfl) ?_
 refine Rr (Qn isAgg22 rfl (hb1.at.get 5 rfl)) ?_
 refine Rr (QK underlying22 rfl) ?_
 refine Rr (o_convV (n := c.l.length) underlying3 underlying67 rfl (by omega)) ?_
 refine Qo rfl (QA call20 rfl) (Ok.mono (rput_ok (BitVec.ofNat 64 c.l.length) _) ?_)
 rintro v38 w31 ⟨hown38, x32⟩
 have z33 := x32.size
 replace hX := hX.ex x32
 replace hl := hl.ext x32
 replace hb1 := hb1.ext x32
 replace hown9 := hown9.ext x32
 replace hown38 := hown38.mono (D' := fun g => w.heap.size ≤ g) (fun g h1 h2 => by omega)
 obtain ⟨a38, c38, hv38, -⟩ := hown38.sl QI
 subst hv38
 refine Rg_app rfl QI el_b8 rfl rfl hown9 (hown38.slA QI) rfl (by have h1 := QP (iW c.day); have h2 := QP (iW c.dl); have h3 := QP (iW c.la); have h4 := QP (iW c.ch); have h5 := QP (BitVec.ofNat 64 c.l.length); (try simp only [List.length_append, List.length_cons, List.length_nil]); omega) omU ?_
 intro v39 w34 x35 hown9
 have z36 := x35.size
 replace hX := Bel.out hX x35 om2
 replace hl := hl.keep x35 om3
 replace hb1 := hb1.keep x35 om1
 refine Rr (Qv (v := v39) rfl) ?_
 refine Qd (Qe (Qe (Qc ?_)))
 refine Rr (Qx underlying24 rfl sizeOf22 rfl) ?_
 refine Rr (Qn isAgg22 rfl (hb1.at.get 5 rfl)) ?_
 refine Rr (QK underlying22 rfl) ?_
 refine Rr QT ?_
 refine Qd (QB ?_)
 refine Za (α := Nat × Value) [(3, 3), (5, 5), (43, 71)] (fun q => [(43, .int .i64 (q.1 : Int)), (3, q.2)]) (fun q w' => (q.1 ≤ c.l.length) ∧ Bel False (fun g => n1 ≤ g) w34 w' ∧ (Own encB 1 5 (fun g => n1 ≤ g) w' q.2 (cpK c q.1))) (fun q => c.l.length - q.1) (0, v39) ⟨rfl, rfl, trivial⟩ ⟨Nat.zero_le _, Bel.refl _ _, (by rw [cpK_zero]; exact hown9)⟩ ?_
 rintro ⟨k, t⟩ fb39 w38 ⟨hk, hXL37, hown3⟩
 dsimp only at *
 have z40 := Bel.size hXL37
 replace hX := Bel.out hX hXL37 om2
 replace hl := hl.keep hXL37 om3
 refine Qe (Qc ?_)
 refine Rr (QQ rfl rfl) ?_
 refine Qd (Qe ?_)
 refine QD rfl (fun hc1 => ?_) (fun hc1 => ?_)
 ·have hk1 : k < c.l.length := by have := dcT hc1; omega
  refine Qu (Qe (QB (Qe (Qc ?_))))
  refine Rr (Zg underlying22 sizeOf29 hl rfl rfl omg) ?_
  refine Rr (o_ldRS isAgg29 sizeOf29 hl rfl (getE itz hk1)) ?_
  refine Rg_alst rfl rfl zeroValue29 rfl sizeOf29 (fun _ => rfl) rfl rfl ?_
  intro b5 w41 x42 hge5 hb5
  replace hown3 := hown3.mono (D' := fun g => n1 ≤ g ∧ g ≠ b5) (fun g h1 h2 => by omega)
  have hlt5 := hb5.lt
  change Box _ _ _ (encIr _) at hb5
  have z43 := x42.size
  replace hX := hX.ex x42
  replace hXL37 := Bel.ex hXL37 x42
  replace hown3 := hown3.ext x42
  refine Qd (Qe (Qc ?_))
  obtain ⟨o, ho⟩ : ∃ o, o = (c.l.getD k itz) := ⟨_, rfl⟩
  rw [← ho] at hb5
  have hx : o.nb := hnb.2.2.2.2.2 o (ho ▸ gm hk1)
  refine Rr (Ql (v := t) rfl) ?_
  refine Rr (Qx underlying29 rfl sizeOf3 rfl) ?_
  refine Rr (Qn isAgg3 rfl (hb5.at.get 0 rfl)) ?_
  refine Rr (o_convI underlying3 underlying67 rfl hx.1.1 hx.1.2) ?_
  refine Qo rfl (QA call20 rfl) (Ok.mono (rput_ok (iW o.u) _) ?_)
  rintro v51 w44 ⟨hown51, x45⟩
  have z46 := x45.size
  replace hX := hX.ex x45
  replace hXL37 := Bel.ex hXL37 x45
  replace hown3 := hown3.ext x45
  replace hb5 := hb5.ext x45
  replace hown51 := hown51.mono (D' := fun g => n1 ≤ g) (fun g h1 h2 => by omega)
  obtain ⟨a51, c51, hv51, -⟩ := hown51.sl QI
  subst hv51
  refine Rg_app rfl QI el_b8 rfl rfl hown3 (hown51.slA QI) rfl (by have h1 := cpK_len c k (by omega); have h2 := QP (iW o.u); have h3 := QP (iW o.r); have h4 := QP (iW o.v); have h5 := QP (iW o.d); (try simp only [List.length_append]); omega) omU ?_
  intro v52 w47 x48 hown3
  have z49 := x48.size
  replace hX := Bel.out hX x48 om2
  replace hXL37 := Bel.out hXL37 x48 om2
  replace hb5 := hb5.keep x48 om1
  refine Rr (Qv (v := v52) rfl) ?_
  refine Qd (Qe (Qc ?_))
  refine Rr (Ql (v := v52) rfl) ?_
  refine Rr (Qx underlying29 rfl sizeOf3 rfl) ?_
  refine Rr (Qn isAgg3 rfl (hb5.at.get 1 rfl)) ?_
  refine Rr (o_convI underlying3 underlying67 rfl hx.2.1.1 hx.2.1.2) ?_
  refine Qo rfl (QA call20 rfl) (Ok.mono (rput_ok (iW o.r) _) ?_)
  rintro v57 w50 ⟨hown57, x51⟩
  have z52 := x51.size
  replace hX := hX.ex x51
  replace hXL37 := Bel.ex hXL37 x51
  replace hown3 := hown3.ext x51
  replace hb5 := hb5.ext x51
  replace hown57 := hown57.mono (D' := fun g => n1 ≤ g) (fun g h1 h2 => by omega)
  obtain ⟨a57, c57, hv57, -⟩ := hown57.sl QI
  subst hv57
  refine Rg_app rfl QI el_b8 rfl rfl hown3 (hown57.slA QI) rfl (by have h1 := cpK_len c k (by omega); have h2 := QP (iW o.u); have h3 := QP (iW o.r); have h4 := QP (iW o.v); have h5 := QP (iW o.d); (try simp only [List.length_append]); omega) omU ?_
  intro v58 w53 x54 hown3
  have z55 := x54.size
  replace hX := Bel.out hX x54 om2
  replace hXL37 := Bel.out hXL37 x54 om2
  replace hb5 := hb5.keep x54 om1
  refine Rr (Qv (v := v58) rfl) ?_
  refine Qd (Qe (Qc ?_))
  refine Rr (Ql (v := v58) rfl) ?_
  refine Rr (Qx underlying29 rfl sizeOf3 rfl) ?_
  refine Rr (Qn isAgg3 rfl (hb5.at.get 2 rfl)) ?_
  refine Rr (o_convI underlying3 underlying67 rfl hx.2.2.1.1 hx.2.2.1.2) ?_
  refine Qo rfl (QA call20 rfl) (Ok.mono (rput_ok (iW o.v) _) ?_)
  rintro v63 w56 ⟨hown63, x57⟩
  have z58 := x57.size
  replace hX := hX.ex x57
  replace hXL37 := Bel.ex hXL37 x57
  replace hown3 := hown3.ext x57
  replace hb5 := hb5.ext x57
  replace hown63 := hown63.mono (D' := fun g => n1 ≤ g) (fun g h1 h2 => by omega)
  obtain ⟨a63, c63, hv63, -⟩ := hown63.sl QI
  subst hv63
  refine Rg_app rfl QI el_b8 rfl rfl hown3 (hown63.slA QI) rfl (by have h1 := cpK_len c k (by omega); have h2 := QP (iW o.u); have h3 := QP (iW o.r); have h4 := QP (iW o.v); have h5 := QP (iW o.d); (try simp only [List.length_append]); omega) omU ?_
  intro v64 w59 x60 hown3
  have z61 := x60.size
  replace hX := Bel.out hX x60 om2
  replace hXL37 := Bel.out hXL37 x60 om2
  replace hb5 := hb5.keep x60 om1
  refine Rr (Qv (v := v64) rfl) ?_
  refine Qd (Qc ?_)
  refine Rr (Ql (v := v64) rfl) ?_
  refine Rr (Qx underlying29 rfl sizeOf3 rfl) ?_
  refine Rr (Qn isAgg3 rfl (hb5.at.get 3 rfl)) ?_
  refine Rr (o_convI underlying3 underlying67 rfl hx.2.2.2.1 hx.2.2.2.2) ?_
  refine Qo rfl (QA call20 rfl) (Ok.mono (rput_ok (iW o.d) _) ?_)
  rintro v69 w62 ⟨hown69, x63⟩
  have z64 := x63.size
  replace hX := hX.ex x63
  replace hXL37 := Bel.ex hXL37 x63
  replace hown3 := hown3.ext x63
  replace hown69 := hown69.mono (D' := fun g => n1 ≤ g) (fun g h1 h2 => by omega)
  obtain ⟨a69, c69, hv69, -⟩ := hown69.sl QI
  subst hv69
  refine Rg_app rfl QI el_b8 rfl rfl hown3 (hown69.slA QI) rfl (by have h1 := cpK_len c k (by omega); have h2 := QP (iW o.u); have h3 := QP (iW o.r); have h4 := QP (iW o.v); have h5 := QP (iW o.d); (try simp only [List.length_append]); omega) omU ?_
  intro v70 w65 x66 hown3
  have z67 := x66.size
  replace hX := Bel.out hX x66 om2
  replace hXL37 := Bel.out hXL37 x66 om2
  refine Rr (Qv (v := v70) rfl) ?_
  refine Qd (Qc ?_)
  refine Rr (Q6 rfl rfl omg) ?_
  refine Rr (mvI rfl) ?_
  refine Qd ?_
  refine ⟨(k + 1, v70), ⟨sT, sT, trivial⟩, oT, ⟨?_, hXL37, ?_⟩, ?_⟩
  ·show k + 1 ≤ c.l.length; omega
  ·rw [cpK_succ hk1, ← ho, itB]
   simp only [← List.append_assoc]
   exact hown3.mono (fun g h1 h2 => by omega)
  ·show c.l.length - (k + 1) < c.l.length - k; omega
 have hk1 : ¬ k < c.l.length := by have := dcF hc1; omega
 refine QS (QL (Qe (Qc ?_)))
 refine Rr (Ql (v := t) rfl) ?_
 refine Rr (Qv (v := t) rfl) ?_
 refine Qd (Qy ?_)
 refine ⟨_, Qp rfl rfl, ?_⟩
 rw [cpK_end (by omega)] at hown3
 exact ⟨hown3.mono (fun g h1 h2 => by omega), hX⟩

