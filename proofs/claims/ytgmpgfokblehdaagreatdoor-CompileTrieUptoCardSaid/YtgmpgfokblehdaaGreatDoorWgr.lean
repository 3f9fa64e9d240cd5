/- Walks: what functions return. -/
import Derived.Test.YtgmpgfokblehdaaGreatDoorWgsl
set_option linter.unusedVariables false
set_option linter.unusedSimpArgs false
set_option linter.unnecessarySimpa false
namespace Go.Proofs.YtgmpgfokblehdaaGreatDoor
open Go Go.Lx Go.RowKit Tryz
set_option maxRecDepth 100000
theorem isnani_ok (w : World) (x : Int) : Ok Tryz.prog 153 #[.int .i64 x] w fun v w' => v = .bool (false) ∧ Ext False w w' := by
 refine Qv 6 func153 rfl rfl rfl ?_
 have hX := xRf w
 refine Qf (Qb (Rr Qj (Qc (Qf (Qb (Rr (mvI rfl) (Rr (mvI rfl) (Rr (Zv rfl rfl) (Rr (asB rfl) (Qc (Qu ⟨_, Qr rfl rfl, ⟨cvB ?_, hX⟩⟩)))))))))))
 all_goals (simp)
theorem cmpi_ok (w : World) (a : Int) (b : Int) : Ok Tryz.prog 95 #[.int .i64 a, .int .i64 b] w fun v w' => v = .int .i64 (cmpI a b) ∧ Ext False w w' := by
 refine Qv 20 func95 rfl rfl rfl ?_
 have hX := xRf w
 refine Qf (Qb (Rr Qj (Qc (Qf (Qb (Rr (mvI rfl) (Qo rfl (QD call153 rfl) (Ok.mono (isnani_ok _ _) ?_))))))))
 rintro _ w1 ⟨rfl, x2⟩
 replace hX := hX.ex x2
 refine Rr (asB rfl) (Qc (Qf (Qb (Rr (mvI rfl) (Qo rfl (QD call153 rfl) (Ok.mono (isnani_ok _ _) ?_))))))
 rintro _ w3 ⟨rfl, x4⟩
 replace hX := hX.ex x4
 refine Rr (asB rfl) (Qc (Qf (Qf (Qb (Rr (mvB rfl) (Qc (Qq rfl (Qp (Qf (Qf (Qb (Rr (mvB rfl) (Qc (Qq rfl (Qp (Qf (Qf (Qb (Rr (mvI rfl) (Rr (mvI rfl) (Rr (QM rfl rfl) (Qc (Qw rfl (fun hc3 => ?_) (fun hc3 => ?_))))))))))))))))))))))))
 ·refine Qf (Qb (Rr Qj (Qc (Qu ⟨_, Qr rfl rfl, ⟨congrArg (Value.int .i64) ?_, hX⟩⟩))))
  all_goals (rw [cmpI, if_pos (dcT hc3)])
 refine Qp (Qf (Qf (Qb (Rr (mvI rfl) (Rr (mvI rfl) (Rr (ZM rfl rfl) (Qc (Qw rfl (fun hc4 => ?_) (fun hc4 => ?_)))))))))
 ·refine Qf (Qb (Rr Qj (Qc (Qu ⟨_, Qr rfl rfl, ⟨congrArg (Value.int .i64) ?_, hX⟩⟩))))
  all_goals (rw [cmpI, if_neg (dcF hc3), if_pos (dcT hc4)])
 refine Qp (Qf (Qb (Rr Qj (Qc (Qu ⟨_, Qr rfl rfl, ⟨congrArg (Value.int .i64) ?_, hX⟩⟩)))))
 all_goals (rw [cmpI, if_neg (dcF hc3), if_neg (dcF hc4)])
theorem gcompare_ok (a b : Ent) (ha : a.p.ok) (hb : b.p.ok) (w : World) : Ok Tryz.prog 47 #[.agg (encE a).toArray, .agg (encE b).toArray] w fun v w' => v = .int .i64 (cmpE a b) ∧ Ext False w w' := by
 refine Qv 20 func47 rfl rfl rfl ?_
 have hX := xRf w
 refine Qf (Qb (QH rfl (QX (v := .agg _) rfl) ?_))
 intro b2 w1 x2 hge2 hb2
 replace hX := hX.ex x2
 refine QH rfl (QX (v := .agg _) rfl) ?_
 intro b3 w3 x4 hge3 hb3
 replace hX := hX.ex x4
 replace hb2 := hb2.ext x4
 refine Rr Qj (Qc (Qf (Qf (Qb (Rr (Qy underlying52 rfl sizeOf3 rfl) (Rr (Qm isAgg3 rfl (hb2.at.get 0 rfl)) (Rr (Qy underlying52 rfl sizeOf3 rfl) (Rr (Qm isAgg3 rfl (hb3.at.get 0 rfl)) (Rr (Zv rfl rfl) (Qc (Qw rfl (fun hc1 => ?_) (fun hc1 => ?_))))))))))))
 ·refine Qf (Qb (Rr (Qy underlying52 rfl sizeOf3 rfl) (Rr (Qm isAgg3 rfl (hb2.at.get 0 rfl)) (Rr (Qy underlying52 rfl sizeOf3 rfl) (Rr (Qm isAgg3 rfl (hb3.at.get 0 rfl)) (Qo rfl (QB call95 rfl rfl) (Ok.mono (cmpi_ok _ _ _) ?_)))))))
  rintro _ w5 ⟨rfl, x6⟩
  replace hX := hX.ex x6
  refine Rr (asI rfl) (Qc (Qu ⟨_, Qr rfl rfl, ⟨congrArg (Value.int .i64) ?_, hX⟩⟩))
  all_goals (rw [cmpE, if_pos hc1])
 refine Qp (Qf (Qb (Rr (Qy underlying52 rfl sizeOf50 rfl) (Rr (QF isAgg50 sizeOf50 rfl (hb2.at.sub 1 3) rfl) (Rr (Qy underlying52 rfl sizeOf50 rfl) (Rr (QF isAgg50 sizeOf50 rfl (hb3.at.sub 1 3) rfl) (Qo rfl (QB call96 rfl rfl) (Ok.mono (Vf (False) _ ha _ hb _) ?_))))))))
 rintro _ w7 ⟨rfl, x8⟩
 replace hX := hX.ex x8
 refine Rr (asI rfl) (Qc (Qu ⟨_, Qr rfl rfl, ⟨congrArg (Value.int .i64) ?_, hX⟩⟩))
 all_goals (rw [cmpE, if_neg (by rw [hc1]; simp)])
theorem grole_ok (w : World) (r : Int) : Ok Tryz.prog 44 #[.int .i64 r] w fun v w' => v = .bool (decide (1 ≤ r) && decide (r ≤ 63)) ∧ Ext False w w' := by
 refine Qv 9 func44 rfl rfl rfl ?_
 have hX := xRf w
 refine Qf (Qb (Rr Qj (Qc (Qf (Qb (Rr (mvI rfl) (Rr (ZU rfl rfl) (Rr (mvB rfl) (Qs 2 5 rfl rfl rfl (fun hg => mvI rfl) (Qs 2 5 rfl rfl rfl (fun hg => Jk (QK (u := undef) hg) rfl) (Rr (Zt (u := undef) rfl rfl) (Rr (asB rfl) (Qc (Qu ⟨_, Qr rfl rfl, ⟨cvB ?_, hX⟩⟩))))))))))))))
 all_goals (rfl)
theorem gindex_ok (a : Option Addr) (c : Nat) (G : Nat → Prop) (l : List Ent) (x : Ent) (w : World) (hs : Sl encE 4 G w a c l) : Ok Tryz.prog 80 #[.slice a l.length c, .agg (encE x).toArray] w fun v w' => v = .int .i64 (ixOf (fun y => y == x) l) ∧ Ext False w w' := by
 have hlen := hs.len
 replace hs := hs.mono (F' := fun g => g < w.heap.size) (fun g h1 h2 => h1)
 refine Qv 19 func80 rfl rfl rfl ?_
 have hX := xRf w
 refine Qf (Qb (QH rfl (QX (v := .agg _) rfl) ?_))
 intro b3 w1 x2 hge3 hb3
 replace hX := hX.ex x2
 replace hs := hs.ext x2
 refine Rr Qj (Qc (Qf (Qf (Qb (Rr (mvS rfl) (Rr (QC underlying47 rfl) (Rr QP (Qc (Qt ?_)))))))))
 refine QU (α := Nat) [(4, 5), (8, 18)] (fun k => [(8, .int .i64 (k : Int))]) (fun k w' => (k ≤ l.length ∧ (l.take k).any (fun y => y == x) = false) ∧ Ext False w1 w') (fun k => l.length - k) 0 ⟨rfl, trivial⟩ ⟨⟨by omega, by simp⟩, Bel.refl _ _⟩ ?_
 rintro k fb5 w4 ⟨⟨hk, hall⟩, hXL3⟩
 replace hX := hX.ex hXL3
 replace hs := hs.ext hXL3
 replace hb3 := hb3.ext hXL3
 refine Qf (Qb (Rr (QM rfl rfl) (Qc (Qf (Qw rfl (fun hc1 => ?_) (fun hc1 => ?_))))))
 ·replace hc1 := dcT hc1
  refine Qp (Qf (Qt (Qf (Qb (Rr (mvI rfl) (Rr (asI rfl) (Qc (Qf ?_))))))))
  apply Q3 (β := False) [peq _, peq _, peq _, peq _, peq _, peq _] 6 QV (by kernel_rfl) rfl ⟨Qd _, Qd _, Qd _, Qd _, Qd _, Qd _, trivial⟩ ?ob4 ?fin4
  case ob4 =>
   refine Qg (fun w6 x7 => ?_) ?_
   ·have hb3 := hb3.ext x7
    exact Qe (Qn rfl (QF isAgg52 sizeOf52 rfl hb3.at rfl))
   refine Qg (fun _ _ => Qe (Qn rfl (mvS rfl))) (Qg (fun _ _ => Qe (Qn rfl (mvI rfl))) (Qg (fun w12 x13 => ?_) ?_))
   ·have hs := hs.ext x13
    exact Qa (Qa (Qe (Qn rfl (QW underlying47 sizeOf52 hs rfl rfl omg))))
   refine Qg (fun w14 x15 => ?_) ?_
   ·have hs := hs.ext x15
    exact Qa (Qe (Qn rfl (QY isAgg52 sizeOf52 hs rfl (Ze ez (by omega)))))
   exact Qg (fun _ _ => Qa (Qa (Qe (Qn rfl (o_teql eq_ent rfl rfl))))) QR
  case fin4 =>
   intro w18 x19
   replace hX := hX.ex x19
   replace hXL3 := Bel.ex hXL3 x19
   refine Qa (Qa (Qa (Qa (Qa (Qa (Qe (Qc (Qw rfl (fun hc2 => ?_) (fun hc2 => ?_)))))))))
   ·rw [beq_swE] at hc2
    refine Qf (Qb (Rr (mvI rfl) (Rr (asI rfl) (Qc (Qu ⟨_, Qr rfl rfl, ⟨congrArg (Value.int .i64) ?_, hX⟩⟩)))))
    all_goals (exact (YH (by omega) hall (by simpa [List.getD, show k < l.length by omega] using hc2)).symm)
   rw [beq_swE] at hc2
   refine Qp (Qb (Rr (QO rfl rfl omg) (Rr (mvI rfl) (Qc ⟨k + 1, ⟨sT, trivial⟩, oT, ⟨?_, hXL3⟩, ?_⟩))))
   ·exact ⟨by omega, Jd (by omega) hall (by simpa [List.getD, show k < l.length by omega] using hc2)⟩
   ·omega
 replace hc1 := dcF hc1
 refine QN (QI (Qf (Qb (Rr Qj (Qc (Qu ⟨_, Qr rfl rfl, ⟨congrArg (Value.int .i64) ?_, hX⟩⟩))))))
 all_goals (exact (Jo (k := k) (by omega) hall).symm)
theorem gbs_ok (a : Option Addr) (c : Nat) (G : Nat → Prop) (m : List Ent) (x : Ent) (w : World) (hs : Sl encE 4 G w a c m) (hm : OkG m) (hx : Ve x) : Ok Tryz.prog 46 #[.slice a m.length c, .agg (encE x).toArray, .func (.func 47) #[] #[]] w fun v w' => v = .tuple #[.int .i64 (cntG m x : Int), .bool (decide (x ∈ m))] ∧ Ext False w w' := by
 have hlen := hm.len
 replace hs := hs.mono (F' := fun g => g < w.heap.size) (fun g h1 h2 => h1)
 refine Qv 49 func46 rfl rfl rfl ?_
 have hX := xRf w
 refine Qf (Qb (QH rfl (QX (v := .agg _) rfl) ?_))
 intro b4 w1 x2 hge4 hb4
 replace hX := hX.ex x2
 replace hs := hs.ext x2
 refine Rr Qj (Rr Qj (Qc (Qf (Qb (Rr (mvS rfl) (Rr (QC underlying47 rfl) (Rr (asI rfl) (Qc (Qf (Qb (Rr (mvI rfl) (Rr Qj (Rr (asI rfl) (Qc (Qf (Qt (QU (α := Nat × Nat) [(9, 11), (15, 34)] (fun q => [(9, .int .i64 (q.1 : Int)), (10, .int .i64 (q.2 : Int))]) (fun q w' => (BsG m x q.1 q.2) ∧ Ext False w1 w') (fun q => q.2 - q.1) (0, m.length) ⟨rfl, rfl, trivial⟩ ⟨BsG.start _ _, Bel.refl _ _⟩ ?_)))))))))))))))))
 rintro ⟨i, j⟩ fb5 w4 ⟨hb, hXL3⟩
 dsimp only at *
 replace hX := hX.ex hXL3
 replace hs := hs.ext hXL3
 replace hb4 := hb4.ext hXL3
 have hb1 := hb.le
 have hb2 := hb.len
 refine Qf (Qf (Qb (Rr (mvI rfl) (Rr (mvI rfl) (Rr (QM rfl rfl) (Qc (Qw rfl (fun hc1 => ?_) (fun hc1 => ?_))))))))
 ·replace hc1 := dcT hc1
  have hij : i < j := by omega
  refine Qp (Qt (Qf (Qb (Rr (mvI rfl) (Rr (mvI rfl) (Rr (ZB (p := i) (b := j) rfl rfl (by omega)) (Rr (o_convV (n := i + j) underlying3 underlying187 rfl (by omega)) (Rr (o_shrU (a := BitVec.ofNat 64 (i + j)) (n := 1) rfl rfl (by decide)) (Rr (o_convU (n := ((i + j) / 2)) underlying187 underlying3 rfl (half_natE (by omega)) (by omega)) (Rr (asI rfl) (Qc (Qf ?_))))))))))))
  apply Q3 (β := False) [peq _, peq _, peq _, peq _, peq _, peq _, peq _, peq _] 8 QV (by kernel_rfl) rfl ⟨Qd _, Qd _, Qd _, Qd _, Qd _, Qd _, Qd _, Qd _, trivial⟩ ?ob5 ?fin5
  case ob5 =>
   refine Qg (fun _ _ => Qe (Qn rfl (QG (v := .func _ _ _) rfl))) (Qg (fun _ _ => Qe (Qn rfl (mvS rfl))) (Qg (fun _ _ => Qe (Qn rfl (mvI rfl))) (Qg (fun w12 x13 => ?_) ?_)))
   ·have hs := hs.ext x13
    exact Qa (Qa (Qe (Qn rfl (QW underlying47 sizeOf52 hs rfl rfl omg))))
   refine Qg (fun w14 x15 => ?_) ?_
   ·have hs := hs.ext x15
    exact Qa (Qe (Qn rfl (QY isAgg52 sizeOf52 hs rfl (Ze ez (by omega)))))
   refine Qg (fun w16 x17 => ?_) ?_
   ·have hb4 := hb4.ext x17
    exact Qe (Qn rfl (QF isAgg52 sizeOf52 rfl hb4.at rfl))
   exact Qg (fun w18 x19 => Qa (Qa (Qa (Qe (Zj rfl (JR call47 rfl rfl rfl) (gcompare_ok (m.getD ((i + j) / 2) ez) x (hm.ve _ (gm (z := ez) (show ((i + j) / 2) < m.length by omega))).2.2.1 hx.2.2.1 _)))))) (Qg (fun _ _ => Qa (Qe (Qn rfl (QM rfl rfl)))) QR)
  case fin5 =>
   intro w22 x23
   replace hXL3 := Bel.ex hXL3 x23
   refine Qa (Qa (Qa (Qa (Qa (Qa (Qa (Qa (Qe (Qc (Qw rfl (fun hc2 => ?_) (fun hc2 => ?_)))))))))))
   ·replace hc2 := dcT hc2
    refine Qb (Rr (mvI rfl) (Rr (QO rfl rfl omg) (Rr (asI rfl) (Qc ⟨(((i + j) / 2) + 1, j), ⟨sT, sT, trivial⟩, oT, ⟨(hb.lo hm hx (by omega) (by omega) hc2), hXL3⟩, ?_⟩))))
    ·show j - (((i + j) / 2) + 1) < j - i; omega
   replace hc2 := dcF hc2
   refine Qb (Rr (mvI rfl) (Rr (asI rfl) (Qc ⟨(i, ((i + j) / 2)), ⟨sT, sT, trivial⟩, oT, ⟨(hb.hi hm hx (by omega) (by omega) hc2), hXL3⟩, ?_⟩)))
   ·show ((i + j) / 2) - i < j - i; omega
 replace hc1 := dcF hc1
 obtain rfl : i = j := by omega
 refine QN (QI (Qf ?_))
 apply Q3 (β := False) [peq _, peq _, peq _, peq _, peq _, peq _, peq _, peq _, peq _, peq _, peq _, peq _, peq _, peq _, peq _, peq _] 16 QV (by kernel_rfl) rfl ⟨Qd _, Qd _, Qd _, Qd _, Qd _, Qd _, Qd _, Qd _, Qd _, Qd _, Qd _, Qd _, Qd _, Qd _, Qd _, Qd _, trivial⟩ ?ob8 ?fin8
 case ob8 =>
  refine Qg (fun _ _ => Qe (Qn rfl (mvI rfl))) (Qg (fun _ _ => Qe (Qn rfl (mvI rfl))) (Qg (fun _ _ => Qe (Qn rfl (mvI rfl))) (Qg (fun _ _ => Qa (Qa (Qe (Qn rfl (QM rfl rfl))))) (Qg (fun _ _ => Qa (Qe (Qn rfl (mvB rfl)))) (Qg (fun _ _ => Qa (Qe (Zs 4 39 rfl rfl (fun hg => QG (v := .func _ _ _) rfl)))) (Qg (fun _ _ => Qa (Qe (Zs 4 39 rfl rfl (fun hg => mvS rfl)))) (Qg (fun _ _ => Qa (Qe (Zs 4 39 rfl rfl (fun hg => mvI rfl)))) (Qg (fun w40 x41 => ?_) ?_))))))))
  ·have hs := hs.ext x41
   exact Qa (Qa (Qa (Qe (Zs 4 39 rfl rfl (fun hg => QW underlying47 sizeOf52 hs (QK (u := undef) hg) (QK (u := undef) hg) omg)))))
  refine Qg (fun w42 x43 => ?_) ?_
  ·have hs := hs.ext x43
   exact Qa (Qa (Qe (Zs 4 39 rfl rfl (fun hg => QY isAgg52 sizeOf52 hs (QK (u := undef) hg) (Ze ez (by simpa using hg))))))
  refine Qg (fun w44 x45 => ?_) ?_
  ·have hb4 := hb4.ext x45
   exact Qa (Qe (Zs 4 39 rfl rfl (fun hg => QF isAgg52 sizeOf52 rfl hb4.at rfl)))
  refine Qg (fun w46 x47 => ?_) ?_
  ·refine Qa (Qa (Qa (Qa (Qa (Qe ?_)))))
   exact Yp 4 39 rfl rfl (fun hg => ⟨(JR call47 (QK (u := undef) hg) (QK (u := undef) hg) (QK (u := undef) hg)), gcompare_ok (m.getD i ez) x (by have hil : i < m.length := (by simpa using hg); exact (hm.ve _ (gm (z := ez) (show i < m.length by omega))).2.2.1) hx.2.2.1 _⟩)
  exact Qg (fun _ _ => Qa (Qa (Qe (Zs 4 39 rfl rfl (fun hg => Zu (QK (u := undef) hg) rfl))))) (Qg (fun _ _ => Qa (Qa (Qe (Qn rfl (Zt (u := undef) rfl rfl))))) (Qg (fun _ _ => Qa (Qa (Qa (Qe (Qn rfl (asI rfl)))))) (Qg (fun _ _ => Qa (Qa (Qa (Qa (Qa (Qa (Qa (Qa (Qa (Qa (Qa (Qa (Qa (Qa (Qa (Qa (Qa (Qe (Qn rfl (asB rfl)))))))))))))))))))) QR)))
 case fin8 =>
  intro w56 x57
  replace hX := hX.ex x57
  refine Qa (Qa (Qa (Qa (Qa (Qa (Qa (Qa (Qa (Qa (Qa (Qa (Qa (Qa (Qa (Qa (Qe (Qc (Qu ⟨_, QT rfl rfl rfl, ?_⟩))))))))))))))))))
  rw [hb.fin hm hx, hb.uniq (cnt_bs hm hx)]
  exact ⟨rfl, hX⟩
theorem gnew_ok (w : World) : Ok Tryz.prog 9 #[] w fun v w' => ∃ p, v = .pointer (some ⟨p, 0, none⟩) ∧ GbIs w' (.pointer (some ⟨p, 0, none⟩)) [] ∧ Ext False w w' := by
 refine Qv 3 func9 rfl rfl rfl ?_
 have hX := xRf w
 refine Qf (Qb (Rr Qj (Qc (Qf (Qb (Rr (Q2 (cells := [.slice none 0 0]) (vs := []) rfl (by kernel_rfl)) (QH rfl (QX (v := .agg _) rfl) ?_)))))))
 intro b2 w1 x2 hge2 hb2
 replace hX := hX.ex x2
 refine Rr (asP rfl) (Qc (Qu ⟨_, Qr rfl rfl, ?_⟩))
 change Box _ _ _ [.slice none 0 0] at hb2
 exact ⟨b2, rfl, gb_nil hb2, hX⟩
theorem ggrant_ok (v0 : Value) (m : List Ent) (w : World) (hb0 : GbIs w v0 m) (hm : OkG m) (e : Ent) (he : e.p.ok) : Ok Tryz.prog 11 #[v0, .int .i64 e.r, .agg (encP e.p).toArray] w fun v w' => (∃ p, v = .tuple #[p, .int .i64 (grantR m e).2] ∧ GbP w' p (grantR m e).2 (grantR m e).1) ∧ Ext False w w' := by
 obtain ⟨pb, ab, cb, rfl, hba, hb⟩ := hb0
 have hbl := hba.lt
 have hlen : m.length ≤ 1000 := hm.len
 refine Qv 54 func11 rfl rfl rfl ?_
 have hX := xRf w
 refine Qf (Qb (QH rfl (QX (v := .agg _) rfl) ?_))
 intro b5 w1 x2 hge5 hb5
 have hlt5 := hb5.lt
 have z3 := x2.size
 replace hX := hX.ex x2
 replace hb := hb.ext x2
 replace hba := hba.ext x2
 refine Rr Qj (Rr Qj (Qc (Qf (Qf (Qb (Rr (mvP rfl) (Rr (Zi underlying25 rfl rfl) (Rr (mvB rfl) (QA 2 14 rfl rfl (Rr (mvI rfl) (QA 2 14 rfl rfl (Qo rfl (QD call44 rfl) (Ok.mono (grole_ok _ _) ?_)))))))))))))
 rintro _ w4 ⟨rfl, x5⟩
 have z6 := x5.size
 replace hX := hX.ex x5
 replace hb := hb.ext x5
 replace hba := hba.ext x5
 replace hb5 := hb5.ext x5
 refine QA 2 14 rfl rfl (Rr (Zp rfl) (Rr (Q0 (v := .bool _) rfl rfl) (Qc (Qw rfl (fun hc1 => ?_) (fun hc1 => ?_)))))
 ·have hr : e.r < 1 ∨ 63 < e.r := by simp at hc1; omega
  refine Qf (Qb (Rr Qj (Rr Qj (Qc (Qu ⟨_, QT rfl rfl rfl, ?_⟩)))))
  have e0 : grantR m e = (m, 1) := by rw [grantR, if_pos hr]
  rw [e0]
  exact ⟨⟨_, rfl, ⟨fun h => by simp at h, fun _ => rfl⟩⟩, hX⟩
 have hr : ¬ (e.r < 1 ∨ 63 < e.r) := by simp at hc1; omega
 refine Qp (Qf (Qf (Qb (Rr (QF isAgg50 sizeOf50 rfl hb5.at rfl) (Qo rfl (QD call45 rfl) (Ok.mono (Vd (False) _ he _) ?_))))))
 rintro _ w7 ⟨rfl, x8⟩
 have z9 := x8.size
 replace hX := hX.ex x8
 replace hb := hb.ext x8
 replace hba := hba.ext x8
 replace hb5 := hb5.ext x8
 refine Rr (asI rfl) (Qc (Qf (Qb (Rr (mvI rfl) (Rr (Zv rfl rfl) (Qc (Qw rfl (fun hc2 => ?_) (fun hc2 => ?_))))))))
 ·have hk0 : checkS e.p ≠ 0 := by simpa using hc2
  refine Qf (Qb (Rr (mvI rfl) (Rr Qj (Rr (asI rfl) (Qc (Qu ⟨_, QT rfl rfl rfl, ?_⟩))))))
  have e0 : grantR m e = (m, checkS e.p) := by rw [grantR, if_neg hr, if_pos hk0]
  rw [e0]
  exact ⟨⟨_, rfl, ⟨fun h => absurd h hk0, fun _ => rfl⟩⟩, hX⟩
 have hk0 : ¬ checkS e.p ≠ 0 := by simpa using hc2
 have hve : Ve e := ⟨by omega, by omega, he, by omega⟩
 refine Qp (Qf (Qb (Rr (mvI rfl) (Rr (QF isAgg50 sizeOf50 rfl hb5.at rfl) (Rr (Q2 (cells := encE e) (vs := [(0, .int _ _), (1, .agg _)]) rfl (by kernel_rfl)) (Zk rfl rfl zeroValue52 rfl sizeOf52 (fun _ => rfl) rfl rfl ?_))))))
 intro b9 w10 x11 hge9 hb9
 have hlt9 := hb9.lt
 have z12 := x11.size
 replace hX := hX.ex x11
 replace hb := hb.ext x11
 replace hba := hba.ext x11
 refine Qc (Qf ?_)
 apply Q3 (β := False) [peq _, peq _, peq _, peq _, peq _, peq _, peq _, peq _, peq _, peq _, peq _] 11 QV (by kernel_rfl) rfl ⟨Qd _, Qd _, Qd _, Qd _, Qd _, Qd _, Qd _, Qd _, Qd _, Qd _, Qd _, trivial⟩ ?ob7 ?fin7
 case ob7 =>
  refine Qg (fun _ _ => Qe (Qn rfl (mvP rfl))) (Qg (fun _ _ => Qa (Qe (Qn rfl (QJ rfl)))) (Qg (fun _ _ => Qa (Qe (Qn rfl (Qy underlying105 rfl sizeOf47 rfl)))) (Qg (fun w22 x23 => ?_) ?_)))
  ·have hba := hba.ext x23
   exact Qa (Qe (Qn rfl (Qm isAgg47 rfl (hba.get 0 rfl))))
  refine Qg (fun w25 x26 => ?_) ?_
  ·have hb9 := hb9.ext x26
   exact Qe (Qn rfl (QF isAgg52 sizeOf52 rfl hb9.at rfl))
  refine Qg (fun w28 x29 => ?_) ?_
  ·have hb := hb.ext x29
   exact Qa (Qa (Qe (Zj rfl (Zg call46 rfl rfl rfl) (gbs_ok _ _ _ m e _ hb hm hve))))
  exact Qg (fun _ _ => Qa (Qe (Qn rfl (QG (v := .tuple _) rfl)))) (Qg (fun _ _ => Qa (Qe (Qn rfl (QE rfl rfl)))) (Qg (fun _ _ => Qa (Qe (Qn rfl (QE rfl rfl)))) (Qg (fun _ _ => Qa (Qa (Qa (Qa (Qa (Qa (Qa (Qa (Qa (Qa (Qe (Qn rfl (asI rfl))))))))))))) (Qg (fun _ _ => Qa (Qa (Qa (Qa (Qa (Qa (Qa (Qa (Qa (Qa (Qa (Qa (Qe (Qn rfl (asB rfl))))))))))))))) QR))))
 case fin7 =>
  intro w46 x47
  have z48 := x47.size
  replace hX := hX.ex x47
  replace hb := hb.ext x47
  replace hba := hba.ext x47
  replace hb9 := hb9.ext x47
  refine Qa (Qa (Qa (Qa (Qa (Qa (Qa (Qa (Qa (Qa (Qa (Qe (Qc (Qf (Qf (Qb (Rr (mvB rfl) (Qc (Qw rfl (fun hc3 => ?_) (fun hc3 => ?_)))))))))))))))))))
  ·have hin : e ∈ m := dcT hc3
   refine Qf (Qb (Rr Qj (Rr Qj (Qc (Qu ⟨_, QT rfl rfl rfl, ?_⟩)))))
   have e0 : grantR m e = (m, 5) := by rw [grantR, if_neg hr, if_neg hk0, if_pos hin]
   rw [e0]
   exact ⟨⟨_, rfl, ⟨fun h => by simp at h, fun _ => rfl⟩⟩, hX⟩
  have hin : e ∉ m := dcF hc3
  refine Qp (Qf (Qf (Qb (Rr (mvP rfl) (Rr (QJ rfl) (Rr (Qy underlying105 rfl sizeOf47 rfl) (Rr (Qm isAgg47 rfl (hba.get 0 rfl)) (Rr (QC underlying47 rfl) (Rr (ZU rfl rfl) (Qc (Qw rfl (fun hc4 => ?_) (fun hc4 => ?_))))))))))))
  ·replace hc4 := dcT hc4
   refine Qf (Qb (Rr Qj (Rr Qj (Qc (Qu ⟨_, QT rfl rfl rfl, ?_⟩)))))
   have e0 : grantR m e = (m, 14) := by rw [grantR, if_neg hr, if_neg hk0, if_neg hin, if_pos (by omega)]
   rw [e0]
   exact ⟨⟨_, rfl, ⟨fun h => by simp at h, fun _ => rfl⟩⟩, hX⟩
  replace hc4 := dcF hc4
  refine Qp (Qf ?_)
  obtain ⟨n1, hn1⟩ : ∃ n, n = w46.heap.size := ⟨_, rfl⟩
  apply Zl (β := False) (fun _ => 0) [peqC _, peqC _, peqC _, peqC _, (postOwn encE 4 52 1 m), peqC _, peqC _, (fun v w c => ∃ a, v = .slice a 1 1 ∧ postOwn encE 4 52 2 [e] v w c)] [0, 0, 0, 0, 1, 0, 0, 2] 8 QV (by kernel_rfl) (by kernel_rfl) rfl ⟨Qk _ _, Qk _ _, Qk _ _, Qk _ _, (Zc), Qk _ _, Qk _ _, (ZJ), trivial⟩ ?ob12 ?fin12
  case ob12 =>
   refine Ql (fun w49 c51 x50 hc052 hk53 => Qi (Qx rfl (mvP rfl))) (Ql (fun w55 c57 x56 hc058 hk59 => Qh (Qi (Qx rfl (QJ rfl)))) (Ql (fun w61 c63 x62 hc064 hk65 => Qh (Qi (Qx rfl (Qy underlying105 rfl sizeOf47 rfl)))) (Ql (fun w67 c69 x68 hc070 hk71 => ?_) ?_)))
   ·replace x68 := RelG.ext0 x68
    have hba := hba.ext x68
    exact Qh (Qi (Qx rfl (Qm isAgg47 rfl (hba.get 0 rfl))))
   refine Ql (fun w73 c75 x74 hc076 hk77 => ?_) ?_
   ·replace x74 := RelG.ext0 x74
    have hb := hb.ext x74
    exact Qh (Qi (Vm rfl (QD call43 rfl) (gclone_ok _ _ _ hb.trd (by omega))))
   refine Ql (fun w79 c81 x80 hc082 hk83 => Qi (Qx rfl (mvI rfl))) (Ql (fun w85 c87 x86 hc088 hk89 => ?_) ?_)
   ·replace x86 := RelG.ext0 x86
    have hb9 := hb9.ext x86
    exact Qi (Qx rfl (QF isAgg52 sizeOf52 rfl hb9.at rfl))
   exact Ql (fun w91 c93 x92 hc094 hk95 => Qh (Qi (Jw (vs := [.agg _]) [e] QZ JJ rfl rfl ⟨rfl, trivial⟩ rfl rfl rfl rfl))) Q8
  case fin12 =>
   intro w97 c99 x98 hc0100
   replace x98 := RelG.ext0 x98
   have z101 := x98.size
   replace hX := hX.ex x98
   refine Qh (Qh (Qh (Qh (Qz (fun v47 hv47 => Qh (Qh (Qz (fun v50 hv50 => Qi ?_))))))))
   change Own _ _ _ _ _ _ _ at hv47
   replace hv47 := Own.mono hv47 (D' := fun g => n1 ≤ g ∧ c99 g = 1) (fun g h1 h2 => ⟨Nat.le_of_not_lt fun q => by have h := hc0100 g (by omega); rw [h2] at h; simp at h, h2⟩)
   obtain ⟨a50, hva50, ho50⟩ := hv50
   subst hva50
   change Own _ _ _ _ _ _ _ at ho50
   replace ho50 := Own.mono ho50 (D' := fun g => n1 ≤ g ∧ c99 g = 2) (fun g h1 h2 => ⟨Nat.le_of_not_lt fun q => by have h := hc0100 g (by omega); rw [h2] at h; simp at h, h2⟩)
   refine Qo rfl (Zg call48 rfl rfl rfl) (Ok.mono (entinsV_ok _ _ _ (cntG m e) _ _ _ _ _ hv47 ho50 (cnt_bs hm hve).len (by omega) (fun q h1 h2 => by omega)) ?_)
   rintro v51 w102 ⟨hown51, x103⟩
   have z104 := x103.size
   replace hX := Bel.out hX x103 om2
   obtain ⟨a51, c51, hv51, -⟩ := hown51.sl QZ
   subst hv51
   refine Rr (Q2 (cells := [.slice a51 (m.take (cntG m e) ++ ([e] : List Ent) ++ m.drop (cntG m e)).length c51]) (vs := [(0, .slice _ _ _)]) rfl (by kernel_rfl)) (QH rfl (QX (v := .agg _) rfl) ?_)
   intro b53 w105 x106 hge53 hb53
   replace hX := hX.ex x106
   replace hown51 := hown51.ext x106
   refine Rr (asP rfl) (Rr Qj (Qc (Qu ⟨_, QT rfl rfl rfl, ?_⟩)))
   change Box _ _ _ [.slice a51 (m.take (cntG m e) ++ ([e] : List Ent) ++ m.drop (cntG m e)).length c51] at hb53
   have e0 : grantR m e = (insGo cmpE e m, 0) := by rw [grantR, if_neg hr, if_neg hk0, if_neg hin, if_neg (by omega)]
   rw [e0]
   refine ⟨⟨_, rfl, ⟨fun _ => ?_, fun h => absurd rfl h⟩⟩, hX⟩
   have hg := gb_new hb53 rfl hown51
   rw [(cnt_bs hm hve).ins hm hve hin] at hg
   exact hg
theorem gdrop_ok (v0 : Value) (m : List Ent) (w : World) (hb0 : GbIs w v0 m) (hm : OkG m) (e : Ent) (he : e.p.ok) : Ok Tryz.prog 31 #[v0, .int .i64 e.r, .agg (encP e.p).toArray] w fun v w' => (∃ p, v = .tuple #[p, .int .i64 (dropR m e).2] ∧ GbP w' p (dropR m e).2 (dropR m e).1) ∧ Ext False w w' := by
 obtain ⟨pb, ab, cb, rfl, hba, hb⟩ := hb0
 have hbl := hba.lt
 have hlen : m.length ≤ 1000 := hm.len
 refine Qv 37 func31 rfl rfl rfl ?_
 have hX := xRf w
 refine Qf (Qb (QH rfl (QX (v := .agg _) rfl) ?_))
 intro b5 w1 x2 hge5 hb5
 have hlt5 := hb5.lt
 have z3 := x2.size
 replace hX := hX.ex x2
 replace hb := hb.ext x2
 replace hba := hba.ext x2
 refine Rr Qj (Rr Qj (Qc (Qf (Qf (Qb (Rr (mvP rfl) (Rr (Zi underlying25 rfl rfl) (Rr (mvB rfl) (QA 2 11 rfl rfl (Rr (mvI rfl) (QA 2 11 rfl rfl (Qo rfl (QD call44 rfl) (Ok.mono (grole_ok _ _) ?_)))))))))))))
 rintro _ w4 ⟨rfl, x5⟩
 have z6 := x5.size
 replace hX := hX.ex x5
 replace hb := hb.ext x5
 replace hba := hba.ext x5
 replace hb5 := hb5.ext x5
 refine QA 2 11 rfl rfl (Rr (Zp rfl) (Rr (Q0 (v := .bool _) rfl rfl) (Qc (Qw rfl (fun hc1 => ?_) (fun hc1 => ?_)))))
 ·have hr : e.r < 1 ∨ 63 < e.r := by simp at hc1; omega
  refine Qf (Qb (Rr Qj (Rr Qj (Qc (Qu ⟨_, QT rfl rfl rfl, ?_⟩)))))
  have e0 : dropR m e = (m, 1) := by rw [dropR, if_pos hr]
  rw [e0]
  exact ⟨⟨_, rfl, ⟨fun h => by simp at h, fun _ => rfl⟩⟩, hX⟩
 have hr : ¬ (e.r < 1 ∨ 63 < e.r) := by simp at hc1; omega
 refine Qp (Qf ?_)
 apply Q3 (β := False) [peq _, peq _, peq _, peq _, peq _, peq _, peq _, peq _, peq _] 9 QV (by kernel_rfl) rfl ⟨Qd _, Qd _, Qd _, Qd _, Qd _, Qd _, Qd _, Qd _, Qd _, trivial⟩ ?ob3 ?fin3
 case ob3 =>
  refine Qg (fun _ _ => Qe (Qn rfl (mvP rfl))) (Qg (fun _ _ => Qa (Qe (Qn rfl (QJ rfl)))) (Qg (fun _ _ => Qa (Qe (Qn rfl (Qy underlying105 rfl sizeOf47 rfl)))) (Qg (fun w16 x17 => ?_) ?_)))
  ·have hba := hba.ext x17
   exact Qa (Qe (Qn rfl (Qm isAgg47 rfl (hba.get 0 rfl))))
  refine Qg (fun _ _ => Qe (Qn rfl (mvI rfl))) (Qg (fun w22 x23 => ?_) ?_)
  ·have hb5 := hb5.ext x23
   exact Qe (Qn rfl (QF isAgg50 sizeOf50 rfl hb5.at rfl))
  refine Qg (fun w25 x26 => Qa (Qa (Qe (Qn rfl (Q2 (cells := encE e) (vs := [(0, .int _ _), (1, .agg _)]) rfl (by kernel_rfl)))))) (Qg (fun w28 x29 => ?_) ?_)
  ·have hb := hb.ext x29
   exact Qa (Qa (Qe (Zj rfl (QB call80 rfl rfl) (gindex_ok _ _ _ m e _ hb))))
  exact Qg (fun _ _ => Qa (Qa (Qa (Qa (Qa (Qa (Qa (Qa (Qa (Qa (Qe (Qn rfl (asI rfl))))))))))))) QR
 case fin3 =>
  intro w34 x35
  have z36 := x35.size
  replace hX := hX.ex x35
  replace hb := hb.ext x35
  replace hba := hba.ext x35
  refine Qa (Qa (Qa (Qa (Qa (Qa (Qa (Qa (Qa (Qe (Qc (Qf (Qf (Qb (Rr (mvI rfl) (Rr (QM rfl rfl) (Qc (Qw rfl (fun hc2 => ?_) (fun hc2 => ?_))))))))))))))))))
  ·have hin : e ∉ m := dcT (by rw [← ixE]; exact hc2)
   refine Qf (Qb (Rr Qj (Rr Qj (Qc (Qu ⟨_, QT rfl rfl rfl, ?_⟩)))))
   have e0 : dropR m e = (m, 4) := by rw [dropR, if_neg hr, if_pos hin]
   rw [e0]
   exact ⟨⟨_, rfl, ⟨fun h => by simp at h, fun _ => rfl⟩⟩, hX⟩
  have hi0 := dcF hc2
  have hin : e ∈ m := Decidable.byContradiction fun h => hi0 (dcT (by rw [ixE]; simpa using h))
  obtain ⟨i, hi1, hi2, hi3⟩ := ixE_some (by omega : 0 ≤ ixOf (fun y => y == e) m)
  rw [hi1]
  refine Qp (Qf (Qb (Rr (mvP rfl) (Rr (QJ rfl) (Rr (Qy underlying105 rfl sizeOf47 rfl) (Rr (Qm isAgg47 rfl (hba.get 0 rfl)) (Qo rfl (QD call43 rfl) (Ok.mono (gclone_ok _ _ _ hb.trd (by omega)) ?_))))))))
  rintro v30 w37 ⟨hown30, x38⟩
  have z39 := x38.size
  replace hX := hX.ex x38
  replace hown30 := hown30.mono (D' := fun g => w.heap.size ≤ g) (fun g h1 h2 => by omega)
  refine Rr (mvI rfl) (Rr (mvI rfl) (Rr (ZB (p := i) (b := 1) rfl rfl (by omega)) (Qo rfl (Zg call81 rfl rfl rfl) (Ok.mono (entdelV_ok _ _ i _ _ hown30 hi2 (by omega)) ?_))))
  rintro v34 w40 ⟨hown34, x41⟩
  replace hX := Bel.out hX x41 om2
  obtain ⟨a34, c34, hv34, -⟩ := hown34.sl QZ
  subst hv34
  refine Rr (Q2 (cells := [.slice a34 (m.take i ++ m.drop (i + 1)).length c34]) (vs := [(0, .slice _ _ _)]) rfl (by kernel_rfl)) (QH rfl (QX (v := .agg _) rfl) ?_)
  intro b36 w43 x44 hge36 hb36
  replace hX := hX.ex x44
  replace hown34 := hown34.ext x44
  refine Rr (asP rfl) (Rr Qj (Qc (Qu ⟨_, QT rfl rfl rfl, ?_⟩)))
  change Box _ _ _ [.slice a34 (m.take i ++ m.drop (i + 1)).length c34] at hb36
  have e0 : dropR m e = (m.filter (· != e), 0) := by rw [dropR, if_neg hr, if_neg (fun h => h hin)]
  rw [e0]
  refine ⟨⟨_, rfl, ⟨fun _ => ?_, fun h => absurd rfl h⟩⟩, hX⟩
  have hg := gb_new hb36 rfl hown34
  rw [del_filter hm.nodup hi2 hi3] at hg
  exact hg
theorem JE (v0 : Value) (m : List Ent) (w : World) (hb0 : GbIs w v0 m) (hm : OkG m) : Ok Tryz.prog 10 #[v0] w fun v w' => Own encE 4 52 (Fsh w w') w' v m ∧ Ext False w w' := by
 obtain ⟨pb, ab, cb, rfl, hba, hb⟩ := hb0
 have hbl := hba.lt
 have hlen : m.length ≤ 1000 := hm.len
 refine Qv 10 func10 rfl rfl rfl ?_
 have hX := xRf w
 refine Qf (Qb (Rr Qj (Qc (Qf (Qf (Qb (Rr (mvP rfl) (Rr (Zi underlying25 rfl rfl) (Qc (Qq rfl (Qp (Qf (Qb (Rr (mvP rfl) (Rr (QJ rfl) (Rr (Qy underlying105 rfl sizeOf47 rfl) (Rr (Qm isAgg47 rfl (hba.get 0 rfl)) (Qo rfl (QD call43 rfl) (Ok.mono (gclone_ok _ _ _ hb.trd (by omega)) ?_)))))))))))))))))))
 rintro v9 w1 ⟨hown9, x2⟩
 replace hX := hX.ex x2
 replace hown9 := hown9.mono (D' := fun g => w.heap.size ≤ g) (fun g h1 h2 => by omega)
 exact Rr (QL (v := v9) rfl) (Qc (Qu ⟨_, Qr rfl rfl, ⟨hown9.mono (fun g h1 h2 => ⟨by omega, by omega⟩), hX⟩⟩))
theorem glen_ok (v0 : Value) (m : List Ent) (w : World) (hb0 : GbIs w v0 m) (hm : OkG m) : Ok Tryz.prog 85 #[v0] w fun v w' => v = .int .i64 (m.length : Int) ∧ Ext False w w' := by
 obtain ⟨pb, ab, cb, rfl, hba, hb⟩ := hb0
 have hbl := hba.lt
 have hlen : m.length ≤ 1000 := hm.len
 refine Qv 10 func85 rfl rfl rfl ?_
 have hX := xRf w
 refine Qf (Qb (Rr Qj (Qc (Qf (Qf (Qb (Rr (mvP rfl) (Rr (Zi underlying25 rfl rfl) (Qc (Qq rfl (Qp (Qf (Qb (Rr (mvP rfl) (Rr (QJ rfl) (Rr (Qy underlying105 rfl sizeOf47 rfl) (Rr (Qm isAgg47 rfl (hba.get 0 rfl)) (Rr (QC underlying47 rfl) (Rr (asI rfl) (Qc (Qu ⟨_, Qr rfl rfl, ⟨congrArg (Value.int .i64) ?_, hX⟩⟩)))))))))))))))))))))
 all_goals (rfl)
theorem gof_ok (v0 : Value) (m : List Ent) (w : World) (hb0 : GbIs w v0 m) (hm : OkG m) (r : Int) : Ok Tryz.prog 118 #[v0, .int .i64 r] w fun v w' => Own encP 3 50 (Fsh w w') w' v (ofG m r) ∧ Ext False w w' := by
 have hlen := hm.len
 refine Qv 26 func118 rfl rfl rfl ?_
 have hX := xRf w
 refine Qf (Qb (Rr Qj (Qc (Qf (Qb (Rr Qj (Qc (Qf (Qf (Qb (Rr (QG (v := v0) rfl) (Qo rfl (QD call10 rfl) (Ok.mono (JE _ _ _ hb0 hm) ?_)))))))))))))
 rintro v9 w1 ⟨hown9, x2⟩
 have z3 := x2.size
 replace hX := hX.ex x2
 obtain ⟨a9, c9, hv9, hs9⟩ := hown9.sl QZ
 subst hv9
 refine Rr (QC underlying47 rfl) (Rr QP (Qc (Qt (QU (α := Nat × Value) [(5, 5), (7, 7), (11, 24)] (fun q => [(11, .int .i64 (q.1 : Int)), (5, q.2)]) (fun q w' => (q.1 ≤ m.length) ∧ Bel False (fun g => w1.heap.size ≤ g) w1 w' ∧ (Own encP 3 50 (fun g => w1.heap.size ≤ g) w' q.2 (ofG (m.take q.1) r))) (fun q => m.length - q.1) (0, .slice none 0 0) ⟨rfl, rfl, trivial⟩ ⟨Nat.zero_le _, Bel.refl _ _, Own.nil _ _⟩ ?_))))
 rintro ⟨k, t⟩ fb6 w5 ⟨hk, hXL4, hown⟩
 dsimp only at *
 have z7 := Bel.size hXL4
 replace hX := Bel.out hX hXL4 om2
 replace hs9 := hs9.keep hXL4 om3
 refine Qf (Qb (Rr (QM rfl rfl) (Qc (Qf (Qw rfl (fun hc1 => ?_) (fun hc1 => ?_))))))
 ·replace hc1 := dcT hc1
  refine Qp (Qf (Qt (Qf (Qb (Rr (QW underlying47 sizeOf52 hs9 rfl rfl omg) (Rr (QY isAgg52 sizeOf52 hs9 rfl (Ze ez (by omega))) (Zk rfl rfl zeroValue52 rfl sizeOf52 (fun _ => rfl) rfl rfl ?_)))))))
  intro b7 w8 x9 hge7 hb7
  have hlt7 := hb7.lt
  have z10 := x9.size
  replace hXL4 := Bel.ex hXL4 x9
  replace hown := hown.ext x9
  refine Qc (Qf (Qb (Rr (Qy underlying52 rfl sizeOf3 rfl) (Rr (Qm isAgg3 rfl (hb7.at.get 0 rfl)) (Rr (mvI rfl) (Rr (Zu rfl rfl) (Qc (Qw rfl (fun hc2 => ?_) (fun hc2 => ?_)))))))))
  ·refine Qb (Rr (QG (v := t) rfl) (Rr (Qy underlying52 rfl sizeOf50 rfl) (Rr (QF isAgg50 sizeOf50 rfl (hb7.at.sub 1 3) rfl) (ZP (vs := [.agg _]) ([(m.getD k ez).p]) rfl encP_ok Y4 rfl rfl ⟨rfl, trivial⟩ rfl rfl rfl rfl ?_))))
   intro a22 w11 x12 hown22
   have z13 := x12.size
   replace hXL4 := Bel.ex hXL4 x12
   replace hown := hown.ext x12
   replace hown22 := hown22.mono (D' := fun g => w1.heap.size ≤ g) (fun g h1 h2 => by omega)
   refine ZZ rfl encP_ok Y4 rfl rfl hown (hown22.slA encP_ok) rfl (by have := ofG_len (m.take k) r; rw [List.length_take] at this; simp; omega) omU ?_
   intro v23 w14 x15 hown
   replace hXL4 := Bel.out hXL4 x15 om2
   refine Rr (QL (v := v23) rfl) (Qc (Qb (Rr (QO rfl rfl omg) (Rr (mvI rfl) (Qc ⟨(k + 1, v23), ⟨sT, sT, trivial⟩, oT, ⟨?_, hXL4, ?_⟩, ?_⟩)))))
   ·show k + 1 ≤ m.length; omega
   ·show Own _ _ _ _ _ _ (ofG (m.take (k + 1)) r)
    rw [ofG_yes (by omega) hc2]; exact hown
   ·show m.length - (k + 1) < m.length - k; omega
  refine Qp (Qb (Rr (QO rfl rfl omg) (Rr (mvI rfl) (Qc ⟨(k + 1, t), ⟨sT, sT, trivial⟩, oT, ⟨?_, hXL4, ?_⟩, ?_⟩))))
  ·show k + 1 ≤ m.length; omega
  ·show Own _ _ _ _ _ _ (ofG (m.take (k + 1)) r)
   rw [ofG_no (by omega) hc2]; exact hown
  ·show m.length - (k + 1) < m.length - k; omega
 replace hc1 := dcF hc1
 refine QN (QI (Qf (Qb ?_)))
 rw [List.take_of_length_le (by omega)] at hown
 exact Rr (QG (v := t) rfl) (Rr (QL (v := t) rfl) (Qc (Qu ⟨_, Qr rfl rfl, ⟨hown.mono (fun g h1 h2 => ⟨by omega, h1⟩), hX⟩⟩)))
theorem bwithI_ok (w : World) (s : SV) (Gs : Nat → Prop) (hs : Sl encU 1 Gs w s.a s.c (wl s.x)) (r : Int) (h1 : 1 ≤ r) (h2 : r ≤ 63) : Ok Tryz.prog 55 #[.agg (encSV s).toArray, .int .i64 r] w fun v w' => ∃ a c, v = .agg (encSV ⟨a, c, s.x ||| oneW r.toNat⟩).toArray ∧ Sl encU 1 (fun g => Gs g ∨ Fsh w w' g) w' a c (wl (s.x ||| oneW r.toNat)) ∧ Ext False w w' := by
 obtain ⟨n, rfl⟩ : ∃ n : Nat, r = n := ⟨r.toNat, by omega⟩
 rw [Int.toNat_natCast]
 exact JX w s Gs hs n (by omega)
theorem gcov_ok (v0 : Value) (m : List Ent) (w : World) (hb0 : GbIs w v0 m) (hm : OkG m) (a s : Str) (ha : a.length ≤ 1100000) (hs : s.length ≤ 1100000) : Ok Tryz.prog 17 #[v0, str a, str s] w fun v w' => ∃ x c, v = .agg (encSV ⟨x, c, covW m a s⟩).toArray ∧ Sl encU 1 (Fsh w w') w' x c (wl (covW m a s)) ∧ Ext False w w' := by
 have hlen := hm.len
 refine Qv 29 func17 rfl rfl rfl ?_
 have hX := xRf w
 refine Qf (Qb (QH rfl (Q4 zeroValue32) ?_))
 intro b6 w1 x2 hge6 hb6
 have hlt6 := hb6.lt
 have z3 := x2.size
 replace hX := hX.ex x2
 replace hb0 := hb0.ext x2
 refine Qc (Qf (Qb (Rr (Q2 (cells := encSV ⟨none, 0, 0⟩) (vs := []) rfl (by kernel_rfl)) (Zk rfl rfl zeroValue32 rfl sizeOf32 (fun _ => rfl) rfl rfl ?_))))
 intro b7 w4 x5 hge7 hb7
 have hlt7 := hb7.lt
 have z6 := x5.size
 replace hX := hX.ex x5
 replace hb0 := hb0.ext x5
 replace hb6 := hb6.ext x5
 refine Qc (Qf (Qf (Qb (Rr (QG (v := v0) rfl) (Qo rfl (QD call10 rfl) (Ok.mono (JE _ _ _ hb0 hm) ?_))))))
 rintro v12 w7 ⟨hown12, x8⟩
 have z9 := x8.size
 replace hX := hX.ex x8
 replace hb6 := hb6.ext x8
 replace hb7 := hb7.ext x8
 obtain ⟨a12, c12, hv12, hs12⟩ := hown12.sl QZ
 subst hv12
 refine Rr (QC underlying47 rfl) (Rr QP (Qc (Qt (QU (α := Nat × Option Addr × Nat) [(9, 9), (14, 27)] (fun q => [(14, .int .i64 (q.1 : Int))]) (fun q w' => (q.1 ≤ m.length) ∧ Bel False (fun g => g = b7) w7 w' ∧ (Box w' b7 32 (encSV ⟨q.2.1, q.2.2, covW (m.take q.1) a s⟩) ∧ Sl encU 1 (fun g => w.heap.size ≤ g ∧ g ≠ b7 ∧ g ≠ b6) w' q.2.1 q.2.2 (wl (covW (m.take q.1) a s)))) (fun q => m.length - q.1) (0, none, 0) ⟨rfl, trivial⟩ ⟨Nat.zero_le _, Bel.refl _ _, ⟨hb7, Sl.none⟩⟩ ?_))))
 rintro ⟨k, ea, ec⟩ fb12 w11 ⟨hk, hXL10, ⟨hb7, hq7⟩⟩
 dsimp only at *
 have z13 := Bel.size hXL10
 replace hX := Bel.out hX hXL10 om2
 replace hb6 := hb6.keep hXL10 om1
 replace hs12 := hs12.keep hXL10 om3
 refine Qf (Qb (Rr (QM rfl rfl) (Qc (Qf (Qw rfl (fun hc1 => ?_) (fun hc1 => ?_))))))
 ·replace hc1 := dcT hc1
  refine Qp (Qf (Qt (Qf (Qb (Rr (QW underlying47 sizeOf52 hs12 rfl rfl omg) (Rr (QY isAgg52 sizeOf52 hs12 rfl (Ze ez (by omega))) (Zk rfl rfl zeroValue52 rfl sizeOf52 (fun _ => rfl) rfl rfl ?_)))))))
  intro b9 w14 x15 hge9 hb9
  have hlt9 := hb9.lt
  have z16 := x15.size
  replace hXL10 := Bel.ex hXL10 x15
  replace hq7 := hq7.ext x15
  replace hb7 := hb7.ext x15
  refine Qc (Qf (Qb (Rr (Qy underlying52 rfl sizeOf50 rfl) (Rr (QF isAgg50 sizeOf50 rfl (hb9.at.sub 1 3) rfl) (Rr (mvT rfl) (Rr (mvT rfl) (Qo rfl (Zg call54 rfl rfl rfl) (Ok.mono (covers_ok (False) _ (hm.ve _ (gm (z := ez) (show k < m.length by omega))).2.2.1 _ _ ha hs _) ?_))))))))
  rintro _ w17 ⟨rfl, x18⟩
  have z19 := x18.size
  replace hXL10 := Bel.ex hXL10 x18
  replace hq7 := hq7.ext x18
  replace hb7 := hb7.ext x18
  replace hb9 := hb9.ext x18
  refine Qc (Qw rfl (fun hc2 => ?_) (fun hc2 => ?_))
  ·refine Qb (Rr (QF isAgg32 sizeOf32 rfl hb7.at rfl) (Rr (Qy underlying52 rfl sizeOf3 rfl) (Rr (Qm isAgg3 rfl (hb9.at.get 0 rfl)) (Qo rfl (QB call55 rfl rfl) (Ok.mono (bwithI_ok _ ⟨_, _, _⟩ _ hq7 _ (hm.ve _ (gm (z := ez) (show k < m.length by omega))).1 (hm.ve _ (gm (z := ez) (show k < m.length by omega))).2.1) ?_)))))
   rintro _ w20 ⟨a26, c26, rfl, hq26, x21⟩
   have z22 := x21.size
   replace hXL10 := Bel.ex hXL10 x21
   replace hb7 := hb7.ext x21
   refine QS (v := .agg _) rfl sizeOf32 rfl rfl hb7 rfl rfl rfl ?_
   intro w23 c24 hb7
   have z25 := Bel.size c24
   replace hXL10 := Bel.out hXL10 c24 om2
   replace hq26 := hq26.keep c24 om3
   refine Qc (Qb (Rr (QO rfl rfl omg) (Rr (mvI rfl) (Qc ⟨(k + 1, a26, c26), ⟨sT, trivial⟩, oT, ⟨?_, hXL10, ?_⟩, ?_⟩))))
   ·show k + 1 ≤ m.length; omega
   ·exact ⟨by show Box _ _ _ (encSV ⟨_, _, covW (m.take (k + 1)) a s⟩); rw [covW_yes (by omega) hc2]; exact hb7, by show Sl _ _ _ _ _ _ (wl (covW (m.take (k + 1)) a s)); rw [covW_yes (by omega) hc2]; exact hq26.mono (fun g h1 h2 => by omega)⟩
   ·show m.length - (k + 1) < m.length - k; omega
  refine Qp (Qb (Rr (QO rfl rfl omg) (Rr (mvI rfl) (Qc ⟨(k + 1, ea, ec), ⟨sT, trivial⟩, oT, ⟨?_, hXL10, ?_⟩, ?_⟩))))
  ·show k + 1 ≤ m.length; omega
  ·exact ⟨by show Box _ _ _ (encSV ⟨_, _, covW (m.take (k + 1)) a s⟩); rw [covW_no (by omega) hc2]; exact hb7, by show Sl _ _ _ _ _ _ (wl (covW (m.take (k + 1)) a s)); rw [covW_no (by omega) hc2]; exact hq7⟩
  ·show m.length - (k + 1) < m.length - k; omega
 replace hc1 := dcF hc1
 refine QN (QI (Qf (Qb (Rr (QF isAgg32 sizeOf32 rfl hb7.at rfl) (QS (v := .agg _) rfl sizeOf32 rfl rfl hb6 rfl rfl rfl ?_)))))
 intro w26 c27 hb6
 replace hX := Bel.out hX c27 om2
 replace hq7 := hq7.keep c27 om3
 refine Qc (Qu ⟨_, ZN (v := .agg _) rfl (Zb isAgg32 sizeOf32 rfl hb6.at rfl), ?_⟩)
 rw [List.take_of_length_le (by omega)] at hq7 ⊢
 exact ⟨_, _, rfl, hq7.mono (fun g h1 h2 => ⟨by omega, by omega⟩), hX⟩
theorem gequal_ok (a b : Option Addr) (c d : Nat) (A C : Nat → Prop) (x y : List Ent) (w : World) (hx : Sl encE 4 A w a c x) (hy : Sl encE 4 C w b d y) : Ok Tryz.prog 173 #[.slice a x.length c, .slice b y.length d] w fun v w' => v = .bool (x == y) ∧ Ext False w w' := by
 have hlx := hx.len; have hly := hy.len
 replace hx := hx.mono (F' := fun g => g < w.heap.size) (fun g h1 h2 => h1)
 replace hy := hy.mono (F' := fun g => g < w.heap.size) (fun g h1 h2 => h1)
 refine Qv 26 func173 rfl rfl rfl ?_
 have hX := xRf w
 refine Qf (Qb (Rr Qj (Qc (Qf (Qf (Qb (Rr (mvS rfl) (Rr (QC underlying47 rfl) (Rr (mvS rfl) (Rr (QC underlying47 rfl) (Rr (Zv rfl rfl) (Qc (Qw rfl (fun hc1 => ?_) (fun hc1 => ?_))))))))))))))
 ·skip
  refine Qf (Qb (Rr Qj (Qc (Qu ⟨_, Qr rfl rfl, ⟨cvB ?_, hX⟩⟩))))
  all_goals (exact (Yf (by simpa using hc1)).symm)
 have hle : (x.length : Int) = y.length := by simpa using hc1
 refine Qp (Qf (Qf (Qb (Rr (mvS rfl) (Rr (QC underlying47 rfl) (Rr QP (Qc (Qt ?_))))))))
 refine QU (α := Nat) [(4, 5), (13, 25)] (fun k => [(13, .int .i64 (k : Int))]) (fun k w' => (k ≤ x.length ∧ x.take k = y.take k) ∧ Ext False w w') (fun k => x.length - k) 0 ⟨rfl, trivial⟩ ⟨⟨by omega, by simp⟩, Bel.refl _ _⟩ ?_
 rintro k fb3 w2 ⟨⟨hk, hall⟩, hXL1⟩
 replace hX := hX.ex hXL1
 replace hx := hx.ext hXL1
 replace hy := hy.ext hXL1
 refine Qf (Qb (Rr (QM rfl rfl) (Qc (Qf (Qw rfl (fun hc2 => ?_) (fun hc2 => ?_))))))
 ·replace hc2 := dcT hc2
  refine Qp (Qf (Qt (Qf (Qb (Rr (mvI rfl) (Rr (asI rfl) (Qc (Qf ?_))))))))
  apply Q3 (β := False) [peq _, peq _, peq _, peq _, peq _, peq _, peq _, peq _, peq _] 9 QV (by kernel_rfl) rfl ⟨Qd _, Qd _, Qd _, Qd _, Qd _, Qd _, Qd _, Qd _, Qd _, trivial⟩ ?ob6 ?fin6
  case ob6 =>
   refine Qg (fun _ _ => Qe (Qn rfl (mvS rfl))) (Qg (fun _ _ => Qe (Qn rfl (mvI rfl))) (Qg (fun w8 x9 => ?_) ?_))
   ·have hx := hx.ext x9
    exact Qa (Qa (Qe (Qn rfl (QW underlying47 sizeOf52 hx rfl rfl omg))))
   refine Qg (fun w10 x11 => ?_) ?_
   ·have hx := hx.ext x11
    exact Qa (Qe (Qn rfl (QY isAgg52 sizeOf52 hx rfl (Ze ez (by omega)))))
   refine Qg (fun _ _ => Qe (Qn rfl (mvS rfl))) (Qg (fun _ _ => Qe (Qn rfl (mvI rfl))) (Qg (fun w16 x17 => ?_) ?_))
   ·have hy := hy.ext x17
    exact Qa (Qa (Qe (Qn rfl (QW underlying47 sizeOf52 hy rfl rfl omg))))
   refine Qg (fun w18 x19 => ?_) ?_
   ·have hy := hy.ext x19
    exact Qa (Qe (Qn rfl (QY isAgg52 sizeOf52 hy rfl (Ze ez (by omega)))))
   exact Qg (fun _ _ => Qa (Qa (Qe (Qn rfl (JV eq_ent rfl rfl))))) QR
  case fin6 =>
   intro w22 x23
   replace hX := hX.ex x23
   replace hXL1 := Bel.ex hXL1 x23
   refine Qa (Qa (Qa (Qa (Qa (Qa (Qa (Qa (Qa (Qe (Qc (Qw rfl (fun hc3 => ?_) (fun hc3 => ?_))))))))))))
   ·refine Qf (Qb (Rr Qj (Qc (Qu ⟨_, Qr rfl rfl, ⟨cvB ?_, hX⟩⟩))))
    all_goals (exact (YX (z := ez) (k := k) (by simpa using hc3)).symm)
   refine Qp (Qb (Rr (QO rfl rfl omg) (Rr (mvI rfl) (Qc ⟨k + 1, ⟨sT, trivial⟩, oT, ⟨?_, hXL1⟩, ?_⟩))))
   ·exact ⟨by omega, JL (z := ez) (by omega) (by omega) hall (by simpa using hc3)⟩
   ·omega
 replace hc2 := dcF hc2
 refine QN (QI (Qf (Qb (Rr Qj (Qc (Qu ⟨_, Qr rfl rfl, ⟨cvB ?_, hX⟩⟩))))))
 all_goals (exact (Yg (k := k) (by omega) (by omega) hall).symm)
theorem geq_ok (v0 v1 : Value) (m n : List Ent) (w : World) (h0 : GbIs w v0 m) (h1 : GbIs w v1 n) : Ok Tryz.prog 114 #[v0, v1] w fun v w' => v = .bool (m == n) ∧ Ext False w w' := by
 obtain ⟨pb, ab, cb, rfl, hba, hb⟩ := h0
 obtain ⟨pd, ad, cd, rfl, hda, hd⟩ := h1
 have hbl := hba.lt
 have hdl := hda.lt
 refine Qv 26 func114 rfl rfl rfl ?_
 have hX := xRf w
 refine Qf (Qb (Rr Qj (Qc (Qf (Qf (Qb (Rr (mvP rfl) (Rr (Zi underlying25 rfl rfl) (Rr (mvB rfl) (QA 2 7 rfl rfl (Rr (mvP rfl) (QA 2 7 rfl rfl (Rr (Zi underlying25 rfl rfl) (Rr (Q0 (v := .bool _) rfl rfl) (Qc (Qq rfl (Qp (Qf ?_))))))))))))))))))
 apply Q3 (β := False) [peq _, peq _, peq _, peq _, peq _, peq _, peq _, peq _, peq _, peq _] 10 QV (by kernel_rfl) rfl ⟨Qd _, Qd _, Qd _, Qd _, Qd _, Qd _, Qd _, Qd _, Qd _, Qd _, trivial⟩ ?ob3 ?fin3
 case ob3 =>
  refine Qg (fun _ _ => Qe (Qn rfl (mvP rfl))) (Qg (fun _ _ => Qa (Qe (Qn rfl (QJ rfl)))) (Qg (fun _ _ => Qa (Qe (Qn rfl (Qy underlying105 rfl sizeOf47 rfl)))) (Qg (fun w7 x8 => ?_) ?_)))
  ·have hba := hba.ext x8
   exact Qa (Qe (Qn rfl (Qm isAgg47 rfl (hba.get 0 rfl))))
  refine Qg (fun _ _ => Qe (Qn rfl (mvP rfl))) (Qg (fun _ _ => Qa (Qe (Qn rfl (QJ rfl)))) (Qg (fun _ _ => Qa (Qe (Qn rfl (Qy underlying105 rfl sizeOf47 rfl)))) (Qg (fun w15 x16 => ?_) ?_)))
  ·have hda := hda.ext x16
   exact Qa (Qe (Qn rfl (Qm isAgg47 rfl (hda.get 0 rfl))))
  refine Qg (fun w17 x18 => ?_) ?_
  ·have hb := hb.ext x18
   have hd := hd.ext x18
   exact Qa (Qa (Qe (Zj rfl (QB call173 rfl rfl) (gequal_ok _ _ _ _ _ _ _ _ _ hb hd))))
  exact Qg (fun _ _ => Qa (Qa (Qa (Qa (Qa (Qa (Qa (Qa (Qa (Qa (Qa (Qe (Qn rfl (asB rfl)))))))))))))) QR
 case fin3 =>
  intro w21 x22
  replace hX := hX.ex x22
  refine Qa (Qa (Qa (Qa (Qa (Qa (Qa (Qa (Qa (Qa (Qe (Qc (Qu ⟨_, Qr rfl rfl, ⟨cvB ?_, hX⟩⟩))))))))))))
  all_goals (rfl)
