/- Walks: what functions return. -/
import Derived.Test.YtjnjalalkbamkaaGreatDoorWst7
import Derived.Test.YtjnjalalkbamkaaGreatDoorSe
import Derived.Test.YtjnjalalkbamkaaGreatDoorWc52
set_option linter.unusedVariables false
set_option linter.unusedSimpArgs false
set_option linter.unnecessarySimpa false
namespace Go.Proofs.YtjnjalalkbamkaaGreatDoor
open Go Go.Lx Go.RowKit Tryz
set_option maxRecDepth 100000
theorem pridxf_ok (a : Option Addr) (c : Nat) (B : Nat → Prop) (l : List Pr) (fid : FuncId) (cs : Array Value) (p : Pr → Bool) (w : World) (hs : Sl encPr 2 B w a c l) (hent : ∀ args w, (callFunc fid args).run Tryz.prog w = .ok (.enter fid args) w) (hp : ∀ x ∈ l, ∀ w', Ext False w w' → Ok Tryz.prog fid (#[.agg (encPr x).toArray] ++ cs) w' fun v w'' => v = .bool (p x) ∧ Ext False w' w'') : Ok Tryz.prog 113 #[.slice a l.length c, .func (.func fid) #[] cs] w fun v w' => v = .int .i64 (ixOf p l) ∧ Ext False w w' := by
 have hlen := hs.len
 refine Qz 19 func113 rfl rfl rfl ?_
 have hX := xRf w
 refine Qe (Qc ?_)
 refine Rr Qm ?_
 refine Qd (Qe (Qe (Qc ?_)))
 refine Rr (mvS rfl) ?_
 refine Rr (QK underlying48 rfl) ?_
 refine Rr QT ?_
 refine Qd (QB ?_)
 refine Za (α := Nat) [(4, 5), (8, 18)] (fun k => [(8, .int .i64 (k : Int))]) (fun k w' => (k ≤ l.length ∧ (l.take k).any p = false) ∧ Ext False w w') (fun k => l.length - k) 0 ⟨rfl, trivial⟩ ⟨⟨by omega, by simp⟩, Bel.refl _ _⟩ ?_
 rintro k fb3 w2 ⟨⟨hk, hall⟩, hXL1⟩
 replace hX := hX.ex hXL1
 replace hs := hs.ext hXL1
 refine Qe (Qc ?_)
 refine Rr (QQ rfl rfl) ?_
 refine Qd (Qe ?_)
 refine QD rfl (fun hc1 => ?_) (fun hc1 => ?_)
 ·replace hc1 := dcT hc1
  refine Qu (Qe (QB (Qe (Qc ?_))))
  refine Rr (mvI rfl) ?_
  refine Rr (asI rfl) ?_
  refine Qd (Qe (Qc ?_))
  refine Rr (Ql (v := .func _ _ _) rfl) ?_
  refine Rr (mvS rfl) ?_
  refine Rr (mvI rfl) ?_
  refine Rr (Zg underlying48 sizeOf47 hs rfl rfl omg) ?_
  refine Rr (o_ldRS isAgg47 sizeOf47 hs rfl (getE ((0, 0) : Pr) (by omega))) ?_
  refine Qo rfl (o_clo1 hent rfl rfl) (Ok.mono (hp _ (gm (z := ((0, 0) : Pr)) (show k < l.length by omega)) _ hX) ?_)
  rintro _ w4 ⟨rfl, x5⟩
  replace hX := hX.ex x5
  replace hXL1 := Bel.ex hXL1 x5
  refine Qd ?_
  refine QD rfl (fun hc2 => ?_) (fun hc2 => ?_)
  ·refine Qe (Qc ?_)
   refine Rr (mvI rfl) ?_
   refine Rr (asI rfl) ?_
   refine Qd (Qy ?_)
   refine ⟨_, Qp rfl rfl, ?_⟩
   refine ⟨congrArg (Value.int .i64) ?_, hX⟩
   all_goals (exact (ixOf_at (by omega) hall (by simpa [List.getD, show k < l.length by omega] using hc2)).symm)
  refine Qu (Qc ?_)
  refine Rr (Q6 rfl rfl omg) ?_
  refine Rr (mvI rfl) ?_
  refine Qd ?_
  refine ⟨k + 1, ⟨sT, trivial⟩, oT, ⟨?_, hXL1⟩, ?_⟩
  ·exact ⟨by omega, anyT_succ (by omega) hall (by simpa [List.getD, show k < l.length by omega] using hc2)⟩
  ·omega
 replace hc1 := dcF hc1
 refine QS (QL (Qe (Qc ?_)))
 refine Rr Qm ?_
 refine Qd (Qy ?_)
 refine ⟨_, Qp rfl rfl, ?_⟩
 refine ⟨congrArg (Value.int .i64) ?_, hX⟩
 all_goals (exact (ixOf_none (k := k) (by omega) hall).symm)

theorem prcontf_ok (a : Option Addr) (c : Nat) (B : Nat → Prop) (l : List Pr) (fid : FuncId) (cs : Array Value) (p : Pr → Bool) (w : World) (hs : Sl encPr 2 B w a c l) (hent : ∀ args w, (callFunc fid args).run Tryz.prog w = .ok (.enter fid args) w) (hp : ∀ x ∈ l, ∀ w', Ext False w w' → Ok Tryz.prog fid (#[.agg (encPr x).toArray] ++ cs) w' fun v w'' => v = .bool (p x) ∧ Ext False w' w'') : Ok Tryz.prog 83 #[.slice a l.length c, .func (.func fid) #[] cs] w fun v w' => v = .bool (l.any p) ∧ Ext False w w' := by
 refine Qz 9 func83 rfl rfl rfl ?_
 have hX := xRf w
 refine Qe (Qc ?_)
 refine Rr Qm ?_
 refine Qd (Qe (Qc ?_))
 refine Rr (mvS rfl) ?_
 refine Rr (Ql (v := .func _ _ _) rfl) ?_
 refine Qo rfl (QM call113 rfl rfl) (Ok.mono (pridxf_ok _ _ _ _ _ _ _ _ hs hent hp) ?_)
 rintro _ w1 ⟨rfl, x2⟩
 replace hX := hX.ex x2
 refine Rr (o_geq rfl rfl) ?_
 refine Rr (asB rfl) ?_
 refine Qd (Qy ?_)
 refine ⟨_, Qp rfl rfl, ?_⟩
 refine ⟨cvB ?_, hX⟩
 all_goals (exact ixOf_ge _ _)

set_option maxHeartbeats 1000000 in
theorem crev_ok (q : PlV) (u r : Int) (w : World) (hq : PlIs w q) : Ok Tryz.prog 49 #[.agg (plC q).toArray, .int .i64 u, .int .i64 r] w fun v w' => v = .int .i64 (rvw u r) ∧ Ext False w w' := by
 refine Qz 31 func49 rfl rfl rfl ?_
 have hX := xRf w
 refine Qe (Qc ?_)
 refine QJ rfl (Q4 (v := .agg _) rfl) ?_
 intro b3 w1 x2 hge3 hb3
 change Box _ _ _ (id _) at hb3
 replace hX := hX.ex x2
 replace hq := hq.ext x2
 refine Rr Qm ?_
 refine Qd (Qe (Qe (Qc ?_)))
 refine Rr (Qx underlying50 rfl sizeOf48 rfl) ?_
 refine Rr (Qn isAgg48 rfl (hb3.at.get 1 rfl)) ?_
 refine Rr (QK underlying48 rfl) ?_
 refine Rr QT ?_
 refine Qd (QB ?_)
 refine Za (α := Nat) [(6, 6), (8, 8), (12, 28)] (fun k => [(12, .int .i64 (k : Int))]) (fun k w' => (k ≤ rvL.length ∧ ∀ j, j < k → rvP u r (rvL.getD j (0, 0)) = false) ∧ Ext False w1 w') (fun k => rvL.length - k) 0 ⟨rfl, trivial⟩ ⟨⟨Nat.zero_le _, fun j h => absurd h (Nat.not_lt_zero _)⟩, Bel.refl _ _⟩ ?_
 rintro k fb5 w4 ⟨⟨hk, hall⟩, hXL3⟩
 replace hX := hX.ex hXL3
 replace hq := hq.ext hXL3
 replace hb3 := hb3.ext hXL3
 refine Qe (Qc ?_)
 refine Rr (QQ rfl rfl) ?_
 refine Qd (Qe ?_)
 refine QD rfl (fun hc1 => ?_) (fun hc1 => ?_)
 ·have hk1 : k < rvL.length := by have := dcT hc1; omega
  refine Qu (Qe (QB (Qe (Qc ?_))))
  refine Rr (Zg underlying48 sizeOf47 hq.r rfl rfl omg) ?_
  refine Rr (o_ldRS isAgg47 sizeOf47 hq.r rfl (getE ((0, 0) : Pr) hk1)) ?_
  refine Rg_alst rfl rfl zeroValue47 rfl sizeOf47 (fun _ => rfl) rfl rfl ?_
  intro b8 w6 x7 hge8 hb8
  change Box _ _ _ (encPr _) at hb8
  replace hX := hX.ex x7
  replace hXL3 := Bel.ex hXL3 x7
  refine Qd (Qe (Qc ?_))
  refine Rr (o_iaA (i := 0) underlying47 sizeOf3 rfl rfl (by decide)) ?_
  refine Rr (Qn isAgg3 rfl (hb8.at.get 0 rfl)) ?_
  refine Rr (mvI rfl) ?_
  refine Rr (Q0 rfl rfl) ?_
  refine Rr (mvB rfl) ?_
  refine Qq 4 20 rfl rfl rfl (fun hg => (o_iaA (i := 1) underlying47 sizeOf3 rfl rfl (by decide))) ?_
  refine Qq 4 20 rfl rfl rfl (fun hg => (Qn isAgg3 (QE (u := undef) hg) (hb8.at.get 1 rfl))) ?_
  refine Qq 4 20 rfl rfl rfl (fun hg => (mvI rfl)) ?_
  refine Qq 4 20 rfl rfl rfl (fun hg => (o_neq (QE (u := undef) hg) (QE (u := undef) hg))) ?_
  refine Rr (o_and (u := undef) rfl rfl) ?_
  refine Qd ?_
  refine QD rfl (fun hc2 => ?_) (fun hc2 => ?_)
  ·have hy : rvP u r (rvL.getD k (0, 0)) = true := hc2
   refine Qe (Qc ?_)
   refine Rr (o_iaA (i := 1) underlying47 sizeOf3 rfl rfl (by decide)) ?_
   refine Rr (Qn isAgg3 rfl (hb8.at.get 1 rfl)) ?_
   refine Rr (asI rfl) ?_
   refine Qd (Qy ?_)
   refine ⟨_, Qp rfl rfl, ?_⟩
   refine ⟨congrArg (Value.int .i64) ?_, hX⟩
   all_goals (exact (rvw_at hk1 hall hy).symm)
  have hy : rvP u r (rvL.getD k (0, 0)) = false := hc2
  refine Qu (Qc ?_)
  refine Rr (Q6 rfl rfl (by have : rvL.length = 2 := rfl; unfold I64; omega)) ?_
  refine Rr (mvI rfl) ?_
  refine Qd ?_
  refine ⟨k + 1, ⟨sT, trivial⟩, oT, ⟨?_, hXL3⟩, ?_⟩
  ·exact ⟨by omega, fun j hj => (Nat.lt_succ_iff_lt_or_eq.1 hj).elim (hall j) (fun e => e ▸ hy)⟩
  ·omega
 have hk1 : ¬ k < rvL.length := by have := dcF hc1; omega
 refine QS (QL (Qe (Qc ?_)))
 refine Rr (Qx underlying50 rfl sizeOf3 rfl) ?_
 refine Rr (Qn isAgg3 rfl (hb3.at.get 2 rfl)) ?_
 refine Rr (asI rfl) ?_
 refine Qd (Qy ?_)
 refine ⟨_, Qp rfl rfl, ?_⟩
 refine ⟨congrArg (Value.int .i64) ?_, hX⟩
 all_goals (exact (rvw_no hk1 hall).symm)

theorem creg1_ok (u : Int) (z b : Nat) (p : PtV) (w : World) (hz : At w z 0 [pB b]) (hb : At w b 0 (ptC p)) (hp : PtIs w p 3 2 mbL) : Ok Tryz.prog 81 #[.int .i64 u, pB z] w fun v w' => v = .bool (decide (u ≥ 1) && decide (u ≤ ((3 : Nat) : Int))) ∧ Ext False w w' := by
 refine Qz 12 func81 rfl rfl rfl ?_
 have hX := xRf w
 refine Qe (Qc ?_)
 refine Rr Qm ?_
 refine Qd (Qe (Qc ?_))
 refine Rr (mvI rfl) ?_
 refine Rr (o_geq rfl rfl) ?_
 refine Rr (mvB rfl) ?_
 refine Qq 2 6 rfl rfl rfl (fun hg => (mvI rfl)) ?_
 refine Qq 2 6 rfl rfl rfl (fun hg => (Qn isAgg40 rfl (hz.get 0 rfl))) ?_
 refine Rg_mayCall 2 6 rfl rfl rfl (fun hg => ⟨(QA call45 (QE (u := undef) hg)), susers_ok b p 3 mbL _ hb hp⟩) ?_
 intro w1 x2
 replace hX := hX.ex x2
 refine Qq 2 6 rfl rfl rfl (fun hg => (o_leq (QE (u := undef) hg) (QE (u := undef) hg))) ?_
 refine Rr (o_and (u := undef) rfl rfl) ?_
 refine Rr (asB rfl) ?_
 refine Qd (Qy ?_)
 refine ⟨_, Qp rfl rfl, ?_⟩
 refine ⟨cvB ?_, hX⟩
 all_goals (rfl)

set_option maxHeartbeats 1000000 in
theorem creg2_ok (x : Pr) (hx : x ∈ rvL) (sa : Option Addr) (sc : Nat) (G : Nat → Prop) (y1 y2 z b : Nat) (p : PtV) (w : World) (hy1 : At w y1 0 (encSV ⟨sa, sc, 6⟩)) (hs : Sl encU 1 G w sa sc (wl 6)) (hy2 : At w y2 0 [.func (.func 81) #[] #[pB z]]) (hz : At w z 0 [pB b]) (hb : At w b 0 (ptC p)) (hp : PtIs w p 3 2 mbL) : Ok Tryz.prog 84 #[.agg (encPr x).toArray, pB y1, pB y2] w fun v w' => v = .bool false ∧ Ext False w w' := by
 have hx1 : hasW 6 (iv x.1) = true ∧ (1 ≤ iv x.2 ∧ iv x.2 ≤ 3) ∧ (1 ≤ iv x.1 ∧ iv x.1 ≤ 63) := by
  simp only [rvL, List.mem_cons, List.not_mem_nil, or_false] at hx
  rcases hx with rfl | rfl <;> decide
 refine Qz 17 func84 rfl rfl rfl ?_
 have hX := xRf w
 refine Qe (Qc ?_)
 refine QJ rfl (Q4 (v := .agg _) rfl) ?_
 intro b3 w1 x2 hge3 hb3
 change Box _ _ _ (encPr _) at hb3
 replace hX := hX.ex x2
 replace hy1 := hy1.ext x2
 replace hs := hs.ext x2
 replace hy2 := hy2.ext x2
 replace hz := hz.ext x2
 replace hb := hb.ext x2
 replace hp := hp.ext x2
 refine Rr Qm ?_
 refine Qd (Qe (Qc ?_))
 refine Rr (QO isAgg45 sizeOf45 rfl hy1 rfl) ?_
 refine Rr (o_iaA (i := 0) underlying47 sizeOf3 rfl rfl (by decide)) ?_
 refine Rr (Qn isAgg3 rfl (hb3.at.get 0 rfl)) ?_
 refine Qo rfl (QM call85 rfl rfl) (Ok.mono (bhas_ok _ ⟨_, _, _⟩ _ hs (iv x.1) (by unfold I64; omega)) ?_)
 rintro _ w3 ⟨rfl, x4⟩
 replace hX := hX.ex x4
 replace hy2 := hy2.ext x4
 replace hz := hz.ext x4
 replace hb := hb.ext x4
 replace hp := hp.ext x4
 replace hb3 := hb3.ext x4
 refine Rr (Q5 rfl) ?_
 refine Rr (mvB rfl) ?_
 refine QF 5 10 rfl (cvB (by rw [hx1.1]; rfl)) ?_
 refine Rr (Qn isAgg132 rfl (hy2.get 0 rfl)) ?_
 refine QF 5 10 rfl (cvB (by rw [hx1.1]; rfl)) ?_
 refine Rr (o_iaA (i := 1) underlying47 sizeOf3 rfl rfl (by decide)) ?_
 refine QF 5 10 rfl (cvB (by rw [hx1.1]; rfl)) ?_
 refine Rr (Qn isAgg3 rfl (hb3.at.get 1 rfl)) ?_
 refine QF 5 10 rfl (cvB (by rw [hx1.1]; rfl)) ?_
 refine Qo rfl (o_clo1 call81 rfl rfl) (Ok.mono (creg1_ok (iv x.2) z b p _ hz hb hp) ?_)
 rintro _ w5 ⟨rfl, x6⟩
 replace hX := hX.ex x6
 refine QF 5 10 rfl (cvB (by rw [hx1.1]; rfl)) ?_
 refine Rr (Q5 rfl) ?_
 refine Rr (Q3 (v := .bool _) (cvB (by rw [hx1.1]; rfl)) rfl) ?_
 refine Rr (asB rfl) ?_
 refine Qd (Qy ?_)
 refine ⟨_, Qp rfl rfl, ?_⟩
 refine ⟨cvB ?_, hX⟩
 all_goals (simp; omega)

theorem sregN_ok (b : Nat) (p : PtV) (n : Nat) (L : List Men) (w : World) (n1 : Nat) (hb : At w b 0 (ptC p)) (hp : PtIs w p n 2 L) (hn : n1 ≤ w.heap.size) : Ok Tryz.prog 78 #[pB b] w fun v w' => ∃ a c, v = .agg (encSV ⟨a, c, 6⟩).toArray ∧ Sl encU 1 (Fsh w w') w' a c (wl 6) ∧ Ext False w w' := sreg_ok b p n L w hb hp
theorem bor6_ok (a : Option Addr) (c : Nat) (G : Nat → Prop) (a2 : Option Addr) (c2 : Nat) (w : World) (hs : Sl encU 1 G w a c (wl 6)) (ho : OkS a2 c2) : Ok Tryz.prog 79 #[.agg (encSV ⟨a, c, 6⟩).toArray, .agg (encSV ⟨a2, c2, 0⟩).toArray] w fun v w' => ∃ a c, v = .agg (encSV ⟨a, c, 6⟩).toArray ∧ Sl encU 1 (Fsh w w') w' a c (wl 6) ∧ Ext False w w' := by
 have h := bor_ok w ⟨a, c, 6⟩ G hs ⟨a2, c2, 0⟩ (fun _ => True) ho.set
 rw [show (6 : W64) ||| 0 = 6 by decide] at h
 exact h
set_option maxHeartbeats 2000000 in
theorem creg_ok (b : Nat) (p : PtV) (q : PlV) (w : World) (hb : At w b 0 (ptC p)) (hp : PtIs w p 3 2 mbL) (hq : PlIs w q) : Ok Tryz.prog 43 #[pB b, .agg (plC q).toArray] w fun v w' => v = .bool true ∧ Ext False w w' := by
 refine Qz 30 func43 rfl rfl rfl ?_
 have hX := xRf w
 refine Qe (Qc ?_)
 refine QJ rfl (Q4 (v := .pointer _) rfl) ?_
 intro b2 w1 x2 hge2 hb2
 have hlt2 := hb2.lt
 have z3 := x2.size
 replace hX := hX.ex x2
 replace hb := hb.ext x2
 replace hp := hp.ext x2
 replace hq := hq.ext x2
 refine QJ rfl (Q4 (v := .agg _) rfl) ?_
 intro b3 w4 x5 hge3 hb3
 have hlt3 := hb3.lt
 change Box _ _ _ (id _) at hb3
 have z6 := x5.size
 replace hX := hX.ex x5
 replace hb := hb.ext x5
 replace hp := hp.ext x5
 replace hq := hq.ext x5
 replace hb2 := hb2.ext x5
 refine Rr Qm ?_
 refine Qd (Qe ?_)
 obtain ⟨n1, hn1⟩ : ∃ n, n = w4.heap.size := ⟨_, rfl⟩
 apply Ze (β := False) (fun _ => 0) [peqC _, (postW (SvN n1 (6))), peqC _, peqC _, (postW (SvN n1 (6))), (postBoxK w4 45 [.slice none 0 0] 1), (postBoxU w4 45 (fun u => [u]) (SlW 6) 1)] [0, 0, 0, 0, 0, 1, 1] 7 Q9 (by kernel_rfl) (by kernel_rfl) rfl ⟨Qi _ _, (postW_stable (SvN.keepS _ _)), Qi _ _, Qi _ _, (postW_stable (SvN.keepS _ _)), (postBoxK_stable), (postBoxU_stable (SlW.keepS _)), trivial⟩ ?ob1 ?fin1
 case ob1 =>
  refine Qk (fun w7 c9 x8 hc010 hk11 => ?_) ?_
  ·replace x8 := RelG.ext0 x8
   have z12 := x8.size
   have hb2 := hb2.ext x8
   refine Qj ?_
   exact Qs rfl (Qn isAgg40 rfl (hb2.at.get 0 rfl))
  refine Qk (fun w13 c15 x14 hc016 hk17 => ?_) ?_
  ·replace x14 := RelG.ext0 x14
   have z18 := x14.size
   have hb := hb.ext x14
   have hp := hp.ext x14
   refine Qb (Qj ?_)
   exact OpC_W (S := SvN n1 (6)) rfl (QA call78 rfl) ((sregN_ok b p 3 mbL _ n1 hb hp (by omega)).mono (fun v w2 ⟨a, c, h1, h2, x⟩ => ⟨⟨fun g hg => by have := hg.1; omega, a, c, h1, h2⟩, x⟩))
  refine Qk (fun w19 c21 x20 hc022 hk23 => ?_) ?_
  ·replace x20 := RelG.ext0 x20
   have z24 := x20.size
   have hb2 := hb2.ext x20
   refine Qj ?_
   exact Qs rfl (Qn isAgg40 rfl (hb2.at.get 0 rfl))
  refine Qk (fun w25 c27 x26 hc028 hk29 => ?_) ?_
  ·replace x26 := RelG.ext0 x26
   have z30 := x26.size
   have hb := hb.ext x26
   have hp := hp.ext x26
   refine Qb ?_
   refine Qw (fun v8 hv8 => ?_)
   obtain ⟨F8, hF8, hn8, a8, c8, rfl, hq8⟩ := hv8
   refine Qj ?_
   exact OpC_call rfl (QA call80 rfl) (sadmin_ok b p 3 mbL _ hb hp)
  refine Qk (fun w31 c33 x32 hc034 hk35 => ?_) ?_
  ·replace x32 := RelG.ext0 x32
   have z36 := x32.size
   have hp := hp.ext x32
   refine Qw (fun v8 hv8 => ?_)
   obtain ⟨F8, hF8, hn8, a8, c8, rfl, hq8⟩ := hv8
   refine Qb (Qb (Qj ?_))
   exact OpC_W (S := SvN n1 (6)) rfl (QM call79 rfl rfl) ((bor6_ok a8 c8 _ p.aa p.ca _ hq8 hp.oa).mono (fun v w2 ⟨a, c, h1, h2, x⟩ => ⟨⟨fun g hg => by have := hg.1; omega, a, c, h1, h2⟩, x⟩))
  refine Qk (fun w37 c39 x38 hc040 hk41 => ?_) ?_
  ·replace x38 := RelG.ext0 x38
   have z42 := x38.size
   refine Qj ?_
   exact OpC_boxK (kc := 1) (Bel.size x38) rfl (Zh zeroValue45)
  refine Qk (fun w43 c45 x44 hc046 hk47 => ?_) ?_
  ·replace x44 := RelG.ext0 x44
   have z48 := x44.size
   refine Qw (fun v5 hv5 => ?_)
   obtain ⟨b5, rfl, hge5, hb5, hcb5⟩ := hv5
   refine Qw (fun v11 hv11 => ?_)
   obtain ⟨F11, hF11, hn11, a11, c11, rfl, hq11⟩ := hv11
   refine Qw (fun v11 hv11 => ?_)
   obtain ⟨F11, hF11, hn11, a11, c11, rfl, hq11⟩ := hv11
   refine Qb ?_
   refine Qw (fun v8 hv8 => ?_)
   obtain ⟨F8, hF8, hn8, a8, c8, rfl, hq8⟩ := hv8
   refine Qb (Qb ?_)
   refine Qw (fun v11 hv11 => ?_)
   obtain ⟨F11, hF11, hn11, a11, c11, rfl, hq11⟩ := hv11
   refine Qw (fun v5 hv5 => ?_)
   obtain ⟨b5, rfl, hge5, hb5, hcb5⟩ := hv5
   refine Qj ?_
   exact postBoxU_of (f := fun u => [u]) (u := .slice a11 (wl 6).length c11) (SlW.keepS _) (OpC_storeLk (v := .agg _) (by decide) sizeOf45 rfl rfl hge5 hb5 hcb5 rfl rfl rfl) rfl hF11 ⟨a11, c11, rfl, hq11⟩
  exact Q8
 case fin1 =>
  intro w49 c51 x50 hc052
  replace x50 := RelG.ext0 x50
  have z53 := x50.size
  replace hX := hX.ex x50
  replace hb := hb.ext x50
  replace hp := hp.ext x50
  replace hq := hq.ext x50
  replace hb2 := hb2.ext x50
  replace hb3 := hb3.ext x50
  refine Qb ?_
  refine Qw (fun v8 hv8 => ?_)
  obtain ⟨F8, hF8, hn8, a8, c8, rfl, hq8⟩ := hv8
  refine Qb (Qb ?_)
  refine Qw (fun v11 hv11 => ?_)
  obtain ⟨F11, hF11, hn11, a11, c11, rfl, hq11⟩ := hv11
  refine Qw (fun v5 _ => ?_)
  refine bindC_lk (v := v5) rfl (fun hst6 => ?_)
  refine Qj ?_
  obtain ⟨b5, rfl, hge5, hcb5, u5, hb5, F5, hF5, a5, c5, rfl, hsv5⟩ := hst6
  change Box _ _ _ (encSV ⟨a5, c5, 6⟩) at hb5
  have hlt5 := hb5.lt
  refine Qd (Qe (Qc ?_))
  refine Rr (o_fn1 rfl) ?_
  refine Rg_alst rfl rfl zeroValue132 rfl sizeOf132 (fun _ => rfl) rfl rfl ?_
  intro b6 w54 x55 hge6 hb6
  have hlt6 := hb6.lt
  have z56 := x55.size
  replace hX := hX.ex x55
  replace hb := hb.ext x55
  replace hp := hp.ext x55
  replace hq := hq.ext x55
  replace hb2 := hb2.ext x55
  replace hb3 := hb3.ext x55
  replace hb5 := hb5.ext x55
  replace hsv5 := hsv5.ext x55
  refine Qd (Qe (Qc ?_))
  refine Rr (Qx underlying50 rfl sizeOf45 rfl) ?_
  refine Rr (QO isAgg45 sizeOf45 rfl (hb3.at.sub 0 1) rfl) ?_
  refine Rr (QO isAgg45 sizeOf45 rfl hb5.at rfl) ?_
  refine Qo rfl (QM call82 rfl rfl) (Ok.mono (bwithin_ok _ ⟨q.sa, q.sc, 6⟩ _ hq.s ⟨a5, c5, 6⟩ _ hsv5) ?_)
  rintro _ w57 ⟨rfl, x58⟩
  have z59 := x58.size
  replace hX := hX.ex x58
  replace hb := hb.ext x58
  replace hp := hp.ext x58
  replace hq := hq.ext x58
  replace hb2 := hb2.ext x58
  replace hb3 := hb3.ext x58
  replace hb5 := hb5.ext x58
  replace hsv5 := hsv5.ext x58
  replace hb6 := hb6.ext x58
  refine Rr (mvB rfl) ?_
  refine QF 4 17 rfl (cvB sub66) ?_
  refine Rr (Qn isAgg132 rfl (hb6.at.get 0 rfl)) ?_
  refine QF 4 17 rfl (cvB sub66) ?_
  refine Rr (Qx underlying50 rfl sizeOf3 rfl) ?_
  refine QF 4 17 rfl (cvB sub66) ?_
  refine Rr (Qn isAgg3 rfl (hb3.at.get 2 rfl)) ?_
  refine QF 4 17 rfl (cvB sub66) ?_
  refine Qo rfl (o_clo1 call81 rfl rfl) (Ok.mono (creg1_ok 3 b2 b p _ hb2.at hb hp) ?_)
  rintro _ w60 ⟨rfl, x61⟩
  have z62 := x61.size
  replace hX := hX.ex x61
  replace hb := hb.ext x61
  replace hp := hp.ext x61
  replace hq := hq.ext x61
  replace hb2 := hb2.ext x61
  replace hb3 := hb3.ext x61
  replace hb5 := hb5.ext x61
  replace hsv5 := hsv5.ext x61
  replace hb6 := hb6.ext x61
  refine Rr (Zb (v := .bool _) (cvB sub66) rfl) ?_
  refine Rr (mvB rfl) ?_
  refine QF 10 23 rfl (cvB u33) ?_
  refine Rr (Qx underlying50 rfl sizeOf48 rfl) ?_
  refine QF 10 23 rfl (cvB u33) ?_
  refine Rr (Qn isAgg48 rfl (hb3.at.get 1 rfl)) ?_
  refine QF 10 23 rfl (cvB u33) ?_
  refine Rr (o_fn2 rfl rfl) ?_
  refine QF 10 23 rfl (cvB u33) ?_
  refine Qo rfl (QM call83 rfl rfl) (Ok.mono (prcontf_ok q.ra q.rc _ rvL 84 #[pB b5, pB b6] (fun _ => false) _ hq.r call84 (fun x hx w1 x1 => creg2_ok x hx a5 c5 _ b5 b6 b2 b p w1 (hb5.at.ext x1) (hsv5.ext x1) (hb6.at.ext x1) (hb2.at.ext x1) (hb.ext x1) (hp.ext x1))) ?_)
  rintro _ w63 ⟨rfl, x64⟩
  have z65 := x64.size
  replace hX := hX.ex x64
  refine QF 10 23 rfl (cvB u33) ?_
  refine Rr (Q5 rfl) ?_
  refine Rr (Zb (v := .bool _) (cvB u33) rfl) ?_
  refine Rr (asB rfl) ?_
  refine Qd (Qy ?_)
  refine ⟨_, Qp rfl rfl, ?_⟩
  refine ⟨cvB ?_, hX⟩
  all_goals (rfl)

