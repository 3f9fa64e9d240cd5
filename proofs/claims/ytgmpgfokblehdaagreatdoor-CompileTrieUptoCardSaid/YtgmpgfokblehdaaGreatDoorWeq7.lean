/- Walks: what functions return. -/
import Derived.Test.YtgmpgfokblehdaaGreatDoorWsg3
set_option linter.unusedVariables false
set_option linter.unusedSimpArgs false
set_option linter.unnecessarySimpa false
namespace Go.Proofs.YtgmpgfokblehdaaGreatDoor
open Go Go.Lx Go.RowKit Tryz
set_option maxRecDepth 100000
theorem Yb (s t : SE) : (s.rs == t.rs) = ((s.n == t.n) && ((s.u == t.u) && (s.x == t.x))) := by
 rw [Bool.eq_iff_iff]
 simp only [Bool.and_eq_true, beq_iff_eq, SE.rs, RS.mk.injEq]
theorem seq1_ok (s t : SE) (A C : Nat → Prop) (w : World) (hs : Sl encU 1 A w s.a s.c (wl s.x)) (ht : Sl encU 1 C w t.a t.c (wl t.x)) : Ok Tryz.prog 193 #[.agg (encSe s).toArray, .agg (encSe t).toArray] w fun v w' => v = .bool (s.rs == t.rs) ∧ Ext False w w' := by
 replace hs := hs.mono (F' := fun g => A g ∧ g < w.heap.size) (fun g h1 h2 => ⟨h2, h1⟩)
 replace ht := ht.mono (F' := fun g => C g ∧ g < w.heap.size) (fun g h1 h2 => ⟨h2, h1⟩)
 refine Qv 24 func193 rfl rfl rfl ?_
 have hX := xRf w
 refine Qf (Qb (QH rfl (QX (v := .agg _) rfl) ?_))
 intro b2 w1 x2 hge2 hb2
 replace hX := hX.ex x2
 replace hs := hs.ext x2
 replace ht := ht.ext x2
 refine QH rfl (QX (v := .agg _) rfl) ?_
 intro b3 w3 x4 hge3 hb3
 replace hX := hX.ex x4
 replace hs := hs.ext x4
 replace ht := ht.ext x4
 replace hb2 := hb2.ext x4
 refine Rr Qj (Qc (Qf (Qb (Rr (Qy underlying145 rfl sizeOf3 rfl) (Rr (Qm isAgg3 rfl (hb2.at.get 0 rfl)) (Rr (Qy underlying145 rfl sizeOf3 rfl) (Rr (Qm isAgg3 rfl (hb3.at.get 0 rfl)) (Rr (Zu rfl rfl) ((Decidable.em ((s.n == t.n) = true)).elim (fun hf1 => ?_) (fun hf1 => ?_))))))))))
 ·refine Rr (mvB rfl) (Qs 5 10 rfl rfl rfl (fun hg => Qy underlying145 rfl sizeOf3 rfl) (Qs 5 10 rfl rfl rfl (fun hg => Qm isAgg3 (QK (u := undef) hg) (hb2.at.get 1 rfl)) (Qs 5 10 rfl rfl rfl (fun hg => Qy underlying145 rfl sizeOf3 rfl) (Qs 5 10 rfl rfl rfl (fun hg => Qm isAgg3 (QK (u := undef) hg) (hb3.at.get 1 rfl)) (Qs 5 10 rfl rfl rfl (fun hg => Zu (QK (u := undef) hg) (QK (u := undef) hg)) (Rr (Zt (u := undef) rfl rfl) ((Decidable.em ((s.u == t.u) = true)).elim (fun hf2 => ?_) (fun hf2 => ?_))))))))
  ·refine Rr (mvB rfl) (Qs 12 17 rfl rfl rfl (fun hg => Qy underlying145 rfl sizeOf32 rfl) (Qs 12 17 rfl rfl rfl (fun hg => QF isAgg32 sizeOf32 (QK (u := undef) hg) (hb2.at.sub 2 1) rfl) (Qs 12 17 rfl rfl rfl (fun hg => Qy underlying145 rfl sizeOf32 rfl) (Qs 12 17 rfl rfl rfl (fun hg => QF isAgg32 sizeOf32 (QK (u := undef) hg) (hb3.at.sub 2 1) rfl) (Zy 12 17 rfl rfl rfl (fun hg => ⟨(QB call16 (QK (u := undef) hg) (QK (u := undef) hg)), Z5 _ ⟨s.a, s.c, s.x⟩ _ hs ⟨t.a, t.c, t.x⟩ _ ht⟩) ?_)))))
   intro w5 x6
   replace hX := hX.ex x6
   refine Rr (Zt (u := undef) rfl rfl) (Rr (asB rfl) (Qc (Qu ⟨_, Qr rfl rfl, ⟨cvB ?_, hX⟩⟩)))
   all_goals (first | (rw [Yb, hf1, hf2]; rfl) | (rw [Yb]; simp only [Bool.not_eq_true] at hf2; rw [hf1, hf2]; rfl) | (rw [Yb]; simp only [Bool.not_eq_true] at hf1; rw [hf1]; rfl))
  refine Rr (mvB rfl) (Qs 12 17 rfl rfl rfl (fun hg => Qy underlying145 rfl sizeOf32 rfl) (Qs 12 17 rfl rfl rfl (fun hg => QF isAgg32 sizeOf32 (QK (u := undef) hg) (hb2.at.sub 2 1) rfl) (Qs 12 17 rfl rfl rfl (fun hg => Qy underlying145 rfl sizeOf32 rfl) (Qs 12 17 rfl rfl rfl (fun hg => QF isAgg32 sizeOf32 (QK (u := undef) hg) (hb3.at.sub 2 1) rfl) (Zy 12 17 rfl rfl rfl (fun hg => ⟨(QB call16 (QK (u := undef) hg) (QK (u := undef) hg)), Z5 _ ⟨s.a, s.c, s.x⟩ _ hs ⟨t.a, t.c, t.x⟩ _ ht⟩) ?_)))))
  intro w7 x8
  replace hX := hX.ex x8
  refine Rr (Zt (u := undef) rfl rfl) (Rr (asB rfl) (Qc (Qu ⟨_, Qr rfl rfl, ⟨cvB ?_, hX⟩⟩)))
  all_goals (first | (rw [Yb, hf1, hf2]; rfl) | (rw [Yb]; simp only [Bool.not_eq_true] at hf2; rw [hf1, hf2]; rfl) | (rw [Yb]; simp only [Bool.not_eq_true] at hf1; rw [hf1]; rfl))
 refine Rr (mvB rfl) (Qs 5 10 rfl rfl rfl (fun hg => Qy underlying145 rfl sizeOf3 rfl) (Qs 5 10 rfl rfl rfl (fun hg => Qm isAgg3 (QK (u := undef) hg) (hb2.at.get 1 rfl)) (Qs 5 10 rfl rfl rfl (fun hg => Qy underlying145 rfl sizeOf3 rfl) (Qs 5 10 rfl rfl rfl (fun hg => Qm isAgg3 (QK (u := undef) hg) (hb3.at.get 1 rfl)) (Qs 5 10 rfl rfl rfl (fun hg => Zu (QK (u := undef) hg) (QK (u := undef) hg)) (Rr (Zt (u := undef) rfl rfl) (Rr (mvB rfl) (Qs 12 17 rfl rfl rfl (fun hg => Qy underlying145 rfl sizeOf32 rfl) (Qs 12 17 rfl rfl rfl (fun hg => QF isAgg32 sizeOf32 (QK (u := undef) hg) (hb2.at.sub 2 1) rfl) (Qs 12 17 rfl rfl rfl (fun hg => Qy underlying145 rfl sizeOf32 rfl) (Qs 12 17 rfl rfl rfl (fun hg => QF isAgg32 sizeOf32 (QK (u := undef) hg) (hb3.at.sub 2 1) rfl) (Zy 12 17 rfl rfl rfl (fun hg => ⟨(QB call16 (QK (u := undef) hg) (QK (u := undef) hg)), Z5 _ ⟨s.a, s.c, s.x⟩ _ hs ⟨t.a, t.c, t.x⟩ _ ht⟩) ?_))))))))))))
 intro w9 x10
 replace hX := hX.ex x10
 refine Rr (Zt (u := undef) rfl rfl) (Rr (asB rfl) (Qc (Qu ⟨_, Qr rfl rfl, ⟨cvB ?_, hX⟩⟩)))
 all_goals (first | (rw [Yb, hf1, hf2]; rfl) | (rw [Yb]; simp only [Bool.not_eq_true] at hf2; rw [hf1, hf2]; rfl) | (rw [Yb]; simp only [Bool.not_eq_true] at hf1; rw [hf1]; rfl))
theorem seqf_ok (a b : Option Addr) (c d : Nat) (A C A2 C2 : Nat → Prop) (x y : List SE) (w : World) (hx : Sl encSe 3 A w a c x) (hy : Sl encSe 3 C w b d y) (hsx : SesAt A2 w x) (hsy : SesAt C2 w y) : Ok Tryz.prog 192 #[.slice a x.length c, .slice b y.length d, .func (.func 193) #[] #[]] w fun v w' => v = .bool (x.map SE.rs == y.map SE.rs) ∧ Ext False w w' := by
 have hlx := hx.len; have hly := hy.len
 replace hx := hx.mono (F' := fun g => g < w.heap.size) (fun g h1 h2 => h1)
 replace hy := hy.mono (F' := fun g => g < w.heap.size) (fun g h1 h2 => h1)
 replace hsx := hsx.mono (F' := fun g => g < w.heap.size) (fun g h1 h2 => h1)
 replace hsy := hsy.mono (F' := fun g => g < w.heap.size) (fun g h1 h2 => h1)
 refine Qv 32 func192 rfl rfl rfl ?_
 have hX := xRf w
 refine Qf (Qb (Rr Qj (Qc (Qf (Qf (Qb (Rr (mvS rfl) (Rr (QC underlying141 rfl) (Rr (mvS rfl) (Rr (QC underlying141 rfl) (Rr (Zv rfl rfl) (Qc (Qw rfl (fun hc1 => ?_) (fun hc1 => ?_))))))))))))))
 ·skip
  refine Qf (Qb (Rr Qj (Qc (Qu ⟨_, Qr rfl rfl, ⟨cvB ?_, hX⟩⟩))))
  all_goals (exact (Yf (by simpa using hc1)).symm)
 have hle : (x.length : Int) = y.length := by simpa using hc1
 refine Qp (Qf (Qf (Qb (Rr (mvS rfl) (Rr (QC underlying141 rfl) (Rr QP (Qc (Qt ?_))))))))
 refine QU (α := Nat) [(6, 9), (17, 31)] (fun k => [(17, .int .i64 (k : Int))]) (fun k w' => (k ≤ x.length ∧ (x.map SE.rs).take k = (y.map SE.rs).take k) ∧ Ext False w w') (fun k => x.length - k) 0 ⟨rfl, trivial⟩ ⟨⟨by omega, by simp⟩, Bel.refl _ _⟩ ?_
 rintro k fb3 w2 ⟨⟨hk, hall⟩, hXL1⟩
 have z4 := Bel.size hXL1
 replace hX := hX.ex hXL1
 replace hx := hx.ext hXL1
 replace hy := hy.ext hXL1
 replace hsx := hsx.ext hXL1
 replace hsy := hsy.ext hXL1
 refine Qf (Qb (Rr (QM rfl rfl) (Qc (Qf (Qw rfl (fun hc2 => ?_) (fun hc2 => ?_))))))
 ·replace hc2 := dcT hc2
  refine Qp (Qf (Qt (Qf (Qb (Rr (mvI rfl) (Rr (QW underlying141 sizeOf145 hx rfl rfl omg) (Rr (QY isAgg145 sizeOf145 hx rfl (Ze sez (by omega))) (QH rfl (Q4 zeroValue145) ?_))))))))
  intro b8 w5 x6 hge8 hb8
  have hlt8 := hb8.lt
  have z7 := x6.size
  replace hX := hX.ex x6
  replace hXL1 := Bel.ex hXL1 x6
  replace hy := hy.ext x6
  replace hsx := hsx.ext x6
  replace hsy := hsy.ext x6
  refine Rr (asI rfl) (QS (v := .agg _) rfl sizeOf145 rfl rfl hb8 rfl rfl rfl ?_)
  intro w8 c9 hb8
  have z10 := Bel.size c9
  replace hX := Bel.out hX c9 om2
  replace hXL1 := Bel.out hXL1 c9 om2
  replace hy := hy.keep c9 om3
  replace hsx := hsx.keep c9 om3
  replace hsy := hsy.keep c9 om3
  refine Qc (Qf (Qb (Rr (mvS rfl) (Rr (mvI rfl) (Rr (QW underlying141 sizeOf145 hy rfl rfl omg) (Rr (QY isAgg145 sizeOf145 hy rfl (Ze sez (by omega))) (Zk rfl rfl zeroValue145 rfl sizeOf145 (fun _ => rfl) rfl rfl ?_)))))))
  intro b9 w11 x12 hge9 hb9
  replace hX := hX.ex x12
  replace hXL1 := Bel.ex hXL1 x12
  replace hsx := hsx.ext x12
  replace hsy := hsy.ext x12
  replace hb8 := hb8.ext x12
  refine Qc (Qf (Qb (Rr (QG (v := .func _ _ _) rfl) (Rr (QF isAgg145 sizeOf145 rfl hb8.at rfl) (Rr (QF isAgg145 sizeOf145 rfl hb9.at rfl) (Qo rfl (JR call193 rfl rfl rfl) (Ok.mono (seq1_ok (x.getD k sez) (y.getD k sez) _ _ _ (hsx _ (gm (z := sez) (show k < x.length by omega))) (hsy _ (gm (z := sez) (show k < y.length by omega)))) ?_)))))))
  rintro _ w14 ⟨rfl, x15⟩
  replace hX := hX.ex x15
  replace hXL1 := Bel.ex hXL1 x15
  refine Rr (Zp rfl) (Qc (Qw rfl (fun hc3 => ?_) (fun hc3 => ?_)))
  ·refine Qf (Qb (Rr Qj (Qc (Qu ⟨_, Qr rfl rfl, ⟨cvB ?_, hX⟩⟩))))
   all_goals (exact (YX (z := rz) (k := k) (by rw [Yd, Yd]; simpa using hc3)).symm)
  refine Qp (Qb (Rr (QO rfl rfl omg) (Rr (mvI rfl) (Qc ⟨k + 1, ⟨sT, trivial⟩, oT, ⟨?_, hXL1⟩, ?_⟩))))
  ·exact ⟨by omega, JL (z := rz) (by simp; omega) (by simp; omega) hall (by rw [Yd, Yd]; simpa using hc3)⟩
  ·omega
 replace hc2 := dcF hc2
 refine QN (QI (Qf (Qb (Rr Qj (Qc (Qu ⟨_, Qr rfl rfl, ⟨cvB ?_, hX⟩⟩))))))
 all_goals (exact (Yg (k := k) (by simp; omega) (by simp; omega) hall).symm)
theorem seqB_ok (v0 v1 : Value) (m n : List RS) (w : World) (h0 : BkIs w v0 m) (h1 : BkIs w v1 n) : Ok Tryz.prog 139 #[v0, v1] w fun v w' => v = .bool (m == n) ∧ Ext False w w' := by
 obtain ⟨pb, b, rfl, hb, rfl⟩ := h0
 obtain ⟨pd, e, rfl, hd, rfl⟩ := h1
 have hba := hb.at'
 have hda := hd.at'
 have hbl := hba.lt
 have hdl := hda.lt
 refine Qv 26 func139 rfl rfl rfl ?_
 have hX := xRf w
 refine Qf (Qb (Rr Qj (Qc (Qf (Qf (Qb (Rr (mvP rfl) (Rr (Zi underlying37 rfl rfl) (Rr (mvB rfl) (QA 2 7 rfl rfl (Rr (mvP rfl) (QA 2 7 rfl rfl (Rr (Zi underlying37 rfl rfl) (Rr (Q0 (v := .bool _) rfl rfl) (Qc (Qq rfl (Qp (Qf ?_))))))))))))))))))
 apply Q3 (β := False) [peq _, peq _, peq _, peq _, peq _, peq _, peq _, peq _, peq _, peq _] 10 QV (by kernel_rfl) rfl ⟨Qd _, Qd _, Qd _, Qd _, Qd _, Qd _, Qd _, Qd _, Qd _, Qd _, trivial⟩ ?ob3 ?fin3
 case ob3 =>
  refine Qg (fun _ _ => Qe (Qn rfl (mvP rfl))) (Qg (fun _ _ => Qa (Qe (Qn rfl (QJ rfl)))) (Qg (fun _ _ => Qa (Qe (Qn rfl (Qy underlying143 rfl sizeOf141 rfl)))) (Qg (fun w7 x8 => ?_) ?_)))
  ·have hba := hba.ext x8
   exact Qa (Qe (Qn rfl (Qm isAgg141 rfl (hba.get 0 rfl))))
  refine Qg (fun _ _ => Qe (Qn rfl (mvP rfl))) (Qg (fun _ _ => Qa (Qe (Qn rfl (QJ rfl)))) (Qg (fun _ _ => Qa (Qe (Qn rfl (Qy underlying143 rfl sizeOf141 rfl)))) (Qg (fun w15 x16 => ?_) ?_)))
  ·have hda := hda.ext x16
   exact Qa (Qe (Qn rfl (Qm isAgg141 rfl (hda.get 0 rfl))))
  refine Qg (fun w17 x18 => ?_) ?_
  ·have hb := hb.ext x18
   have hd := hd.ext x18
   exact Qa (Qa (Qe (Zj rfl (Zg call192 rfl rfl rfl) (seqf_ok _ _ _ _ _ _ _ _ _ _ _ hb.sl hd.sl hb.ws hd.ws))))
  exact Qg (fun _ _ => Qa (Qa (Qa (Qa (Qa (Qa (Qa (Qa (Qa (Qa (Qa (Qe (Qn rfl (asB rfl)))))))))))))) QR
 case fin3 =>
  intro w21 x22
  replace hX := hX.ex x22
  refine Qa (Qa (Qa (Qa (Qa (Qa (Qa (Qa (Qa (Qa (Qe (Qc (Qu ⟨_, Qr rfl rfl, ⟨cvB ?_, hX⟩⟩))))))))))))
  all_goals (rfl)
theorem nequal_ok (a b : Option Addr) (c d : Nat) (A C : Nat → Prop) (x y : List Str) (w : World) (hx : Sl encS 1 A w a c x) (hy : Sl encS 1 C w b d y) : Ok Tryz.prog 187 #[.slice a x.length c, .slice b y.length d] w fun v w' => v = .bool (x == y) ∧ Ext False w w' := by
 have hlx := hx.len; have hly := hy.len
 replace hx := hx.mono (F' := fun g => g < w.heap.size) (fun g h1 h2 => h1)
 replace hy := hy.mono (F' := fun g => g < w.heap.size) (fun g h1 h2 => h1)
 refine Qv 26 func187 rfl rfl rfl ?_
 have hX := xRf w
 refine Qf (Qb (Rr Qj (Qc (Qf (Qf (Qb (Rr (mvS rfl) (Rr (QC underlying23 rfl) (Rr (mvS rfl) (Rr (QC underlying23 rfl) (Rr (Zv rfl rfl) (Qc (Qw rfl (fun hc1 => ?_) (fun hc1 => ?_))))))))))))))
 ·skip
  refine Qf (Qb (Rr Qj (Qc (Qu ⟨_, Qr rfl rfl, ⟨cvB ?_, hX⟩⟩))))
  all_goals (exact (Yf (by simpa using hc1)).symm)
 have hle : (x.length : Int) = y.length := by simpa using hc1
 refine Qp (Qf (Qf (Qb (Rr (mvS rfl) (Rr (QC underlying23 rfl) (Rr QP (Qc (Qt ?_))))))))
 refine QU (α := Nat) [(4, 5), (13, 25)] (fun k => [(13, .int .i64 (k : Int))]) (fun k w' => (k ≤ x.length ∧ x.take k = y.take k) ∧ Ext False w w') (fun k => x.length - k) 0 ⟨rfl, trivial⟩ ⟨⟨by omega, by simp⟩, Bel.refl _ _⟩ ?_
 rintro k fb3 w2 ⟨⟨hk, hall⟩, hXL1⟩
 replace hX := hX.ex hXL1
 replace hx := hx.ext hXL1
 replace hy := hy.ext hXL1
 refine Qf (Qb (Rr (QM rfl rfl) (Qc (Qf (Qw rfl (fun hc2 => ?_) (fun hc2 => ?_))))))
 ·replace hc2 := dcT hc2
  refine Qp (Qf (Qt (Qf (Qb (Rr (mvI rfl) (Rr (asI rfl) (Qc (Qf ?_))))))))
  apply Q3 (β := False) [peq _, peq _, peq _, peq _, peq _, peq _, peq _, peq _, peq _] 9 QV (by kernel_rfl) rfl ⟨Qd _, Qd _, Qd _, Qd _, Qd _, Qd _, Qd _, Qd _, Qd _, trivial⟩ ?ob6 ?fin6
  case ob6 =>
   refine Qg (fun _ _ => Qe (Qn rfl (mvS rfl))) (Qg (fun _ _ => Qe (Qn rfl (mvI rfl))) (Qg (fun w8 x9 => ?_) ?_))
   ·have hx := hx.ext x9
    exact Qa (Qa (Qe (Qn rfl (QW underlying23 sizeOf9 hx rfl rfl omg))))
   refine Qg (fun w10 x11 => ?_) ?_
   ·have hx := hx.ext x11
    exact Qa (Qe (Qn rfl (Zx isAgg9 hx rfl rfl (Ze ([] : Str) (by omega)) rfl)))
   refine Qg (fun _ _ => Qe (Qn rfl (mvS rfl))) (Qg (fun _ _ => Qe (Qn rfl (mvI rfl))) (Qg (fun w16 x17 => ?_) ?_))
   ·have hy := hy.ext x17
    exact Qa (Qa (Qe (Qn rfl (QW underlying23 sizeOf9 hy rfl rfl omg))))
   refine Qg (fun w18 x19 => ?_) ?_
   ·have hy := hy.ext x19
    exact Qa (Qe (Qn rfl (Zx isAgg9 hy rfl rfl (Ze ([] : Str) (by omega)) rfl)))
   exact Qg (fun _ _ => Qa (Qa (Qe (Qn rfl (o_sneq rfl rfl))))) QR
  case fin6 =>
   intro w22 x23
   replace hX := hX.ex x23
   replace hXL1 := Bel.ex hXL1 x23
   refine Qa (Qa (Qa (Qa (Qa (Qa (Qa (Qa (Qa (Qe (Qc (Qw rfl (fun hc3 => ?_) (fun hc3 => ?_))))))))))))
   ·refine Qf (Qb (Rr Qj (Qc (Qu ⟨_, Qr rfl rfl, ⟨cvB ?_, hX⟩⟩))))
    all_goals (exact (YX (z := ([] : Str)) (k := k) (by simpa using hc3)).symm)
   refine Qp (Qb (Rr (QO rfl rfl omg) (Rr (mvI rfl) (Qc ⟨k + 1, ⟨sT, trivial⟩, oT, ⟨?_, hXL1⟩, ?_⟩))))
   ·exact ⟨by omega, JL (z := ([] : Str)) (by omega) (by omega) hall (by simpa using hc3)⟩
   ·omega
 replace hc2 := dcF hc2
 refine QN (QI (Qf (Qb (Rr Qj (Qc (Qu ⟨_, Qr rfl rfl, ⟨cvB ?_, hX⟩⟩))))))
 all_goals (exact (Yg (k := k) (by omega) (by omega) hall).symm)
theorem nteq_ok (v0 v1 : Value) (m n : List Str) (w : World) (h0 : NtM w v0 m) (h1 : NtM w v1 n) : Ok Tryz.prog 133 #[v0, v1] w fun v w' => v = .bool (m == n) ∧ Ext False w w' := by
 obtain ⟨pb, ab, cb, mb, rfl, hba, hb, -⟩ := h0
 obtain ⟨pd, ad, cd, md, rfl, hda, hd, -⟩ := h1
 have hbl := hba.lt
 have hdl := hda.lt
 refine Qv 23 func133 rfl rfl rfl ?_
 have hX := xRf w
 refine Qf (Qb (Rr Qj (Qc (Qf (Qf (Qb (Rr (mvP rfl) (Rr (Zi underlying29 rfl rfl) (Rr (mvB rfl) (QA 2 7 rfl rfl (Rr (mvP rfl) (QA 2 7 rfl rfl (Rr (Zi underlying29 rfl rfl) (Rr (Q0 (v := .bool _) rfl rfl) (Qc (Qq rfl (Qp (Qf ?_))))))))))))))))))
 apply Q3 (β := False) [peq _, peq _, peq _, peq _, peq _, peq _, peq _, peq _, peq _, peq _] 10 QV (by kernel_rfl) rfl ⟨Qd _, Qd _, Qd _, Qd _, Qd _, Qd _, Qd _, Qd _, Qd _, Qd _, trivial⟩ ?ob3 ?fin3
 case ob3 =>
  refine Qg (fun _ _ => Qe (Qn rfl (mvP rfl))) (Qg (fun _ _ => Qa (Qe (Qn rfl (QJ rfl)))) (Qg (fun _ _ => Qa (Qe (Qn rfl (Qy underlying101 rfl sizeOf23 rfl)))) (Qg (fun w7 x8 => ?_) ?_)))
  ·have hba := hba.ext x8
   exact Qa (Qe (Qn rfl (Qm isAgg23 rfl (hba.get 0 rfl))))
  refine Qg (fun _ _ => Qe (Qn rfl (mvP rfl))) (Qg (fun _ _ => Qa (Qe (Qn rfl (QJ rfl)))) (Qg (fun _ _ => Qa (Qe (Qn rfl (Qy underlying101 rfl sizeOf23 rfl)))) (Qg (fun w15 x16 => ?_) ?_)))
  ·have hda := hda.ext x16
   exact Qa (Qe (Qn rfl (Qm isAgg23 rfl (hda.get 0 rfl))))
  refine Qg (fun w17 x18 => ?_) ?_
  ·have hb := hb.ext x18
   have hd := hd.ext x18
   exact Qa (Qa (Qe (Zj rfl (QB call187 rfl rfl) (nequal_ok _ _ _ _ _ _ _ _ _ hb hd))))
  exact Qg (fun _ _ => Qa (Qa (Qa (Qa (Qa (Qa (Qa (Qa (Qa (Qa (Qa (Qe (Qn rfl (asB rfl)))))))))))))) QR
 case fin3 =>
  intro w21 x22
  replace hX := hX.ex x22
  refine Qa (Qa (Qa (Qa (Qa (Qa (Qa (Qa (Qa (Qa (Qe (Qc (Qu ⟨_, Qr rfl rfl, ⟨cvB ?_, hX⟩⟩))))))))))))
  all_goals (rfl)
theorem eqI_k (d : Nat) {k : IntKind} {T : TypeId} (x y : Int) (h : Tryz.prog.underlying T = some (.int k)) : ∀ w, (Op.equalIn (d + 1) T (.int k x) (.int k y)).run Tryz.prog w = .ok (x == y) w := by
 intro w
 simp [Op.equalIn, run_underlying h]
theorem menBeq (x y : Men) : (x == y) = ((x.u == y.u) && ((x.r == y.r) && ((x.t == y.t) && true))) := by
 obtain ⟨a0, a1, a2⟩ := x
 obtain ⟨b0, b1, b2⟩ := y
 rw [Bool.eq_iff_iff]
 simp only [Bool.and_eq_true, beq_iff_eq, Men.mk.injEq, and_true]
theorem eq_meD (n : Nat) (x y : Men) : ∀ w, (Op.equalIn (n + 2) 136 (.agg (encMe x).toArray) (.agg (encMe y).toArray)).run Tryz.prog w = .ok (x == y) w := fun w => by
 rw [run_equalIn_struct w (n + 1) _ _ _ (by kernel_rfl) (by kernel_rfl), menBeq, Program.fieldsOf, underlying136]
 exact (ZV (by simp) isAgg3 rfl rfl (eqI_k _ _ _ underlying3) (ZV (by simp) isAgg3 rfl rfl (eqI_k _ _ _ underlying3) (ZV (by simp) isAgg3 rfl rfl (eqI_k _ _ _ underlying3) YK))) w
theorem eq_me : EqT Tryz.prog 136 encMe := ⟨by kernel_rfl, fun w x y => eq_meD 9998 x y w⟩
theorem mequal_ok (a b : Option Addr) (c d : Nat) (A C : Nat → Prop) (x y : List Men) (w : World) (hx : Sl encMe 3 A w a c x) (hy : Sl encMe 3 C w b d y) : Ok Tryz.prog 188 #[.slice a x.length c, .slice b y.length d] w fun v w' => v = .bool (x == y) ∧ Ext False w w' := by
 have hlx := hx.len; have hly := hy.len
 replace hx := hx.mono (F' := fun g => g < w.heap.size) (fun g h1 h2 => h1)
 replace hy := hy.mono (F' := fun g => g < w.heap.size) (fun g h1 h2 => h1)
 refine Qv 26 func188 rfl rfl rfl ?_
 have hX := xRf w
 refine Qf (Qb (Rr Qj (Qc (Qf (Qf (Qb (Rr (mvS rfl) (Rr (QC underlying133 rfl) (Rr (mvS rfl) (Rr (QC underlying133 rfl) (Rr (Zv rfl rfl) (Qc (Qw rfl (fun hc1 => ?_) (fun hc1 => ?_))))))))))))))
 ·skip
  refine Qf (Qb (Rr Qj (Qc (Qu ⟨_, Qr rfl rfl, ⟨cvB ?_, hX⟩⟩))))
  all_goals (exact (Yf (by simpa using hc1)).symm)
 have hle : (x.length : Int) = y.length := by simpa using hc1
 refine Qp (Qf (Qf (Qb (Rr (mvS rfl) (Rr (QC underlying133 rfl) (Rr QP (Qc (Qt ?_))))))))
 refine QU (α := Nat) [(4, 5), (13, 25)] (fun k => [(13, .int .i64 (k : Int))]) (fun k w' => (k ≤ x.length ∧ x.take k = y.take k) ∧ Ext False w w') (fun k => x.length - k) 0 ⟨rfl, trivial⟩ ⟨⟨by omega, by simp⟩, Bel.refl _ _⟩ ?_
 rintro k fb3 w2 ⟨⟨hk, hall⟩, hXL1⟩
 replace hX := hX.ex hXL1
 replace hx := hx.ext hXL1
 replace hy := hy.ext hXL1
 refine Qf (Qb (Rr (QM rfl rfl) (Qc (Qf (Qw rfl (fun hc2 => ?_) (fun hc2 => ?_))))))
 ·replace hc2 := dcT hc2
  refine Qp (Qf (Qt (Qf (Qb (Rr (mvI rfl) (Rr (asI rfl) (Qc (Qf ?_))))))))
  apply Q3 (β := False) [peq _, peq _, peq _, peq _, peq _, peq _, peq _, peq _, peq _] 9 QV (by kernel_rfl) rfl ⟨Qd _, Qd _, Qd _, Qd _, Qd _, Qd _, Qd _, Qd _, Qd _, trivial⟩ ?ob6 ?fin6
  case ob6 =>
   refine Qg (fun _ _ => Qe (Qn rfl (mvS rfl))) (Qg (fun _ _ => Qe (Qn rfl (mvI rfl))) (Qg (fun w8 x9 => ?_) ?_))
   ·have hx := hx.ext x9
    exact Qa (Qa (Qe (Qn rfl (QW underlying133 sizeOf136 hx rfl rfl omg))))
   refine Qg (fun w10 x11 => ?_) ?_
   ·have hx := hx.ext x11
    exact Qa (Qe (Qn rfl (QY isAgg136 sizeOf136 hx rfl (Ze mez (by omega)))))
   refine Qg (fun _ _ => Qe (Qn rfl (mvS rfl))) (Qg (fun _ _ => Qe (Qn rfl (mvI rfl))) (Qg (fun w16 x17 => ?_) ?_))
   ·have hy := hy.ext x17
    exact Qa (Qa (Qe (Qn rfl (QW underlying133 sizeOf136 hy rfl rfl omg))))
   refine Qg (fun w18 x19 => ?_) ?_
   ·have hy := hy.ext x19
    exact Qa (Qe (Qn rfl (QY isAgg136 sizeOf136 hy rfl (Ze mez (by omega)))))
   exact Qg (fun _ _ => Qa (Qa (Qe (Qn rfl (JV eq_me rfl rfl))))) QR
  case fin6 =>
   intro w22 x23
   replace hX := hX.ex x23
   replace hXL1 := Bel.ex hXL1 x23
   refine Qa (Qa (Qa (Qa (Qa (Qa (Qa (Qa (Qa (Qe (Qc (Qw rfl (fun hc3 => ?_) (fun hc3 => ?_))))))))))))
   ·refine Qf (Qb (Rr Qj (Qc (Qu ⟨_, Qr rfl rfl, ⟨cvB ?_, hX⟩⟩))))
    all_goals (exact (YX (z := mez) (k := k) (by simpa using hc3)).symm)
   refine Qp (Qb (Rr (QO rfl rfl omg) (Rr (mvI rfl) (Qc ⟨k + 1, ⟨sT, trivial⟩, oT, ⟨?_, hXL1⟩, ?_⟩))))
   ·exact ⟨by omega, JL (z := mez) (by omega) (by omega) hall (by simpa using hc3)⟩
   ·omega
 replace hc2 := dcF hc2
 refine QN (QI (Qf (Qb (Rr Qj (Qc (Qu ⟨_, Qr rfl rfl, ⟨cvB ?_, hX⟩⟩))))))
 all_goals (exact (Yg (k := k) (by omega) (by omega) hall).symm)
theorem mbeq_ok (v0 v1 : Value) (m n : List Men) (w : World) (h0 : MbIs w v0 m) (h1 : MbIs w v1 n) : Ok Tryz.prog 134 #[v0, v1] w fun v w' => v = .bool (m == n) ∧ Ext False w w' := by
 obtain ⟨pb, ab, cb, rfl, hba, hb⟩ := h0
 obtain ⟨pd, ad, cd, rfl, hda, hd⟩ := h1
 have hbl := hba.lt
 have hdl := hda.lt
 refine Qv 23 func134 rfl rfl rfl ?_
 have hX := xRf w
 refine Qf (Qb (Rr Qj (Qc (Qf (Qf (Qb (Rr (mvP rfl) (Rr (Zi underlying34 rfl rfl) (Rr (mvB rfl) (QA 2 7 rfl rfl (Rr (mvP rfl) (QA 2 7 rfl rfl (Rr (Zi underlying34 rfl rfl) (Rr (Q0 (v := .bool _) rfl rfl) (Qc (Qq rfl (Qp (Qf ?_))))))))))))))))))
 apply Q3 (β := False) [peq _, peq _, peq _, peq _, peq _, peq _, peq _, peq _, peq _, peq _] 10 QV (by kernel_rfl) rfl ⟨Qd _, Qd _, Qd _, Qd _, Qd _, Qd _, Qd _, Qd _, Qd _, Qd _, trivial⟩ ?ob3 ?fin3
 case ob3 =>
  refine Qg (fun _ _ => Qe (Qn rfl (mvP rfl))) (Qg (fun _ _ => Qa (Qe (Qn rfl (QJ rfl)))) (Qg (fun _ _ => Qa (Qe (Qn rfl (Qy underlying138 rfl sizeOf133 rfl)))) (Qg (fun w7 x8 => ?_) ?_)))
  ·have hba := hba.ext x8
   exact Qa (Qe (Qn rfl (Qm isAgg133 rfl (hba.get 0 rfl))))
  refine Qg (fun _ _ => Qe (Qn rfl (mvP rfl))) (Qg (fun _ _ => Qa (Qe (Qn rfl (QJ rfl)))) (Qg (fun _ _ => Qa (Qe (Qn rfl (Qy underlying138 rfl sizeOf133 rfl)))) (Qg (fun w15 x16 => ?_) ?_)))
  ·have hda := hda.ext x16
   exact Qa (Qe (Qn rfl (Qm isAgg133 rfl (hda.get 0 rfl))))
  refine Qg (fun w17 x18 => ?_) ?_
  ·have hb := hb.ext x18
   have hd := hd.ext x18
   exact Qa (Qa (Qe (Zj rfl (QB call188 rfl rfl) (mequal_ok _ _ _ _ _ _ _ _ _ hb hd))))
  exact Qg (fun _ _ => Qa (Qa (Qa (Qa (Qa (Qa (Qa (Qa (Qa (Qa (Qa (Qe (Qn rfl (asB rfl)))))))))))))) QR
 case fin3 =>
  intro w21 x22
  replace hX := hX.ex x22
  refine Qa (Qa (Qa (Qa (Qa (Qa (Qa (Qa (Qa (Qa (Qe (Qc (Qu ⟨_, Qr rfl rfl, ⟨cvB ?_, hX⟩⟩))))))))))))
  all_goals (rfl)
theorem prequal_ok (a b : Option Addr) (c d : Nat) (A C : Nat → Prop) (x y : List Pr) (w : World) (hx : Sl encPr 2 A w a c x) (hy : Sl encPr 2 C w b d y) : Ok Tryz.prog 168 #[.slice a x.length c, .slice b y.length d] w fun v w' => v = .bool (x == y) ∧ Ext False w w' := by
 have hlx := hx.len; have hly := hy.len
 replace hx := hx.mono (F' := fun g => g < w.heap.size) (fun g h1 h2 => h1)
 replace hy := hy.mono (F' := fun g => g < w.heap.size) (fun g h1 h2 => h1)
 refine Qv 26 func168 rfl rfl rfl ?_
 have hX := xRf w
 refine Qf (Qb (Rr Qj (Qc (Qf (Qf (Qb (Rr (mvS rfl) (Rr (QC underlying207 rfl) (Rr (mvS rfl) (Rr (QC underlying207 rfl) (Rr (Zv rfl rfl) (Qc (Qw rfl (fun hc1 => ?_) (fun hc1 => ?_))))))))))))))
 ·skip
  refine Qf (Qb (Rr Qj (Qc (Qu ⟨_, Qr rfl rfl, ⟨cvB ?_, hX⟩⟩))))
  all_goals (exact (Yf (by simpa using hc1)).symm)
 have hle : (x.length : Int) = y.length := by simpa using hc1
 refine Qp (Qf (Qf (Qb (Rr (mvS rfl) (Rr (QC underlying207 rfl) (Rr QP (Qc (Qt ?_))))))))
 refine QU (α := Nat) [(4, 5), (13, 25)] (fun k => [(13, .int .i64 (k : Int))]) (fun k w' => (k ≤ x.length ∧ x.take k = y.take k) ∧ Ext False w w') (fun k => x.length - k) 0 ⟨rfl, trivial⟩ ⟨⟨by omega, by simp⟩, Bel.refl _ _⟩ ?_
 rintro k fb3 w2 ⟨⟨hk, hall⟩, hXL1⟩
 replace hX := hX.ex hXL1
 replace hx := hx.ext hXL1
 replace hy := hy.ext hXL1
 refine Qf (Qb (Rr (QM rfl rfl) (Qc (Qf (Qw rfl (fun hc2 => ?_) (fun hc2 => ?_))))))
 ·replace hc2 := dcT hc2
  refine Qp (Qf (Qt (Qf (Qb (Rr (mvI rfl) (Rr (asI rfl) (Qc (Qf ?_))))))))
  apply Q3 (β := False) [peq _, peq _, peq _, peq _, peq _, peq _, peq _, peq _, peq _] 9 QV (by kernel_rfl) rfl ⟨Qd _, Qd _, Qd _, Qd _, Qd _, Qd _, Qd _, Qd _, Qd _, trivial⟩ ?ob6 ?fin6
  case ob6 =>
   refine Qg (fun _ _ => Qe (Qn rfl (mvS rfl))) (Qg (fun _ _ => Qe (Qn rfl (mvI rfl))) (Qg (fun w8 x9 => ?_) ?_))
   ·have hx := hx.ext x9
    exact Qa (Qa (Qe (Qn rfl (QW underlying207 sizeOf208 hx rfl rfl omg))))
   refine Qg (fun w10 x11 => ?_) ?_
   ·have hx := hx.ext x11
    exact Qa (Qe (Qn rfl (QY isAgg208 sizeOf208 hx rfl (Ze ((0, 0) : Pr) (by omega)))))
   refine Qg (fun _ _ => Qe (Qn rfl (mvS rfl))) (Qg (fun _ _ => Qe (Qn rfl (mvI rfl))) (Qg (fun w16 x17 => ?_) ?_))
   ·have hy := hy.ext x17
    exact Qa (Qa (Qe (Qn rfl (QW underlying207 sizeOf208 hy rfl rfl omg))))
   refine Qg (fun w18 x19 => ?_) ?_
   ·have hy := hy.ext x19
    exact Qa (Qe (Qn rfl (QY isAgg208 sizeOf208 hy rfl (Ze ((0, 0) : Pr) (by omega)))))
   exact Qg (fun _ _ => Qa (Qa (Qe (Qn rfl (JV eq_pr rfl rfl))))) QR
  case fin6 =>
   intro w22 x23
   replace hX := hX.ex x23
   replace hXL1 := Bel.ex hXL1 x23
   refine Qa (Qa (Qa (Qa (Qa (Qa (Qa (Qa (Qa (Qe (Qc (Qw rfl (fun hc3 => ?_) (fun hc3 => ?_))))))))))))
   ·refine Qf (Qb (Rr Qj (Qc (Qu ⟨_, Qr rfl rfl, ⟨cvB ?_, hX⟩⟩))))
    all_goals (exact (YX (z := ((0, 0) : Pr)) (k := k) (by simpa using hc3)).symm)
   refine Qp (Qb (Rr (QO rfl rfl omg) (Rr (mvI rfl) (Qc ⟨k + 1, ⟨sT, trivial⟩, oT, ⟨?_, hXL1⟩, ?_⟩))))
   ·exact ⟨by omega, JL (z := ((0, 0) : Pr)) (by omega) (by omega) hall (by simpa using hc3)⟩
   ·omega
 replace hc2 := dcF hc2
 refine QN (QI (Qf (Qb (Rr Qj (Qc (Qu ⟨_, Qr rfl rfl, ⟨cvB ?_, hX⟩⟩))))))
 all_goals (exact (Yg (k := k) (by omega) (by omega) hall).symm)
theorem prequal_okV (v1 v2 : Value) (A C : Nat → Prop) (x y : List Pr) (w : World) (hx : Rd encPr 2 A w v1 x) (hy : Rd encPr 2 C w v2 y) : Ok Tryz.prog 168 #[v1, v2] w fun v w' => v = .bool (x == y) ∧ Ext False w w' := by
 obtain ⟨a, c, rfl, h1⟩ := hx
 obtain ⟨b, d, rfl, h2⟩ := hy
 exact prequal_ok _ _ _ _ _ _ _ _ _ h1 h2
theorem hyeq_ok (v0 : Value) (L : List Pr) (w : World) (hh : HyIs w v0 L) (hl : L.length ≤ 1000) : Ok Tryz.prog 106 #[v0, v0] w fun v w' => v = .bool true ∧ Ext False w w' := by
 obtain ⟨ph, po, o, rfl, hha, ho, hk⟩ := hh
 have hol := Nat.le_trans hk.le hl
 refine Qv 19 func106 rfl rfl rfl ?_
 have hX := xRf w
 refine Qf (Qb (Rr Qj (Qc (Qf (Qf (Qb (Rr (mvP rfl) (Rr (Zi underlying33 rfl rfl) (Rr (mvB rfl) (QA 2 7 rfl rfl (Rr (mvP rfl) (QA 2 7 rfl rfl (Rr (Zi underlying33 rfl rfl) (Rr (Q0 (v := .bool _) rfl rfl) (Qc (Qq rfl (Qp (Qf (Qb (Rr (mvP rfl) (Qo rfl (QD call159 rfl) (Ok.mono (YT ph po o _ hha ho hol) ?_))))))))))))))))))))))
 rintro v15 w1 ⟨hown15, x2⟩
 replace hX := hX.ex x2
 replace hha := hha.ext x2
 replace ho := Zn ho x2
 refine Rr (mvP rfl) (Qo rfl (QD call159 rfl) (Ok.mono (YT ph po o _ hha ho hol) ?_))
 rintro v17 w3 ⟨hown17, x4⟩
 replace hX := hX.ex x4
 replace hown15 := hown15.ext x4
 refine Qo rfl (QB call168 rfl rfl) (Ok.mono (prequal_okV _ _ _ _ _ _ _ (hown15.rd encPr_ok) (hown17.rd encPr_ok)) ?_)
 rintro _ w5 ⟨rfl, x6⟩
 replace hX := hX.ex x6
 refine Rr (asB rfl) (Qc (Qu ⟨_, Qr rfl rfl, ⟨cvB ?_, hX⟩⟩))
 all_goals (exact beq_self_eq_true _)
theorem mrevoke_ok (v0 : Value) (L : List Men) (w : World) (hb0 : MbIs w v0 L) (hm : OkN L) (u r : Int) (hu : 1 ≤ u ∧ u ≤ 256) (hr : 1 ≤ r ∧ r ≤ 63) (hf : fnN L ⟨u, r, 0⟩ = true) : Ok Tryz.prog 22 #[v0, .int .i64 u, .int .i64 r] w fun v w' => (∃ p, v = .tuple #[p, .int .i64 0] ∧ MbIs w' p (L.take (fdN L ⟨u, r, 0⟩) ++ L.drop (fdN L ⟨u, r, 0⟩ + 1))) ∧ Ext False w w' := by
 obtain ⟨pb, ab, cb, rfl, hba, hb⟩ := hb0
 have hbl := hba.lt
 have hlen := hm.len
 have hi2 := fnN_lt hf
 obtain ⟨i, hi⟩ : ∃ i, i = fdN L ⟨u, r, 0⟩ := ⟨_, rfl⟩
 rw [← hi] at hi2 ⊢
 have hix := mindex_ok _ L w ⟨pb, ab, cb, rfl, hba, hb⟩ hm u r hu hr
 rw [← hi] at hix
 refine Qv 32 func22 rfl rfl rfl ?_
 have hX := xRf w
 refine Qf (Qb (Rr Qj (Rr Qj (Qc (Qf (Qf (Qb (Rr (mvP rfl) (Rr (Zi underlying34 rfl rfl) (Qc (Qq rfl (Qp (Qf (Qb (Rr (mvP rfl) (Rr (mvI rfl) (Rr (mvI rfl) (Qo rfl (Zg call67 rfl rfl rfl) (Ok.mono (hix) ?_)))))))))))))))))))
 rintro _ w1 ⟨rfl, x2⟩
 have z3 := x2.size
 replace hX := hX.ex x2
 replace hb := hb.ext x2
 replace hba := hba.ext x2
 refine Rr (QG (v := .tuple _) rfl) (Rr (QE rfl rfl) (Rr (QE rfl rfl) (Rr (asI rfl) (Rr (asB rfl) (Qc (Qf (Qf (Qb (Rr (mvB rfl) (Rr (Zp rfl) (Qc ?_)))))))))))
 refine Qq (cvB (by rw [hf]; rfl)) ?_
 refine Qp (Qf (Qb (Rr (mvP rfl) (Rr (QJ rfl) (Rr (Qy underlying138 rfl sizeOf133 rfl) (Rr (Qm isAgg133 rfl (hba.get 0 rfl)) (Qo rfl (QD call58 rfl) (Ok.mono (YP _ _ _ hb.trd (by omega)) ?_))))))))
 rintro v25 w4 ⟨hown25, x5⟩
 have z6 := x5.size
 replace hX := hX.ex x5
 refine Rr (mvI rfl) (Rr (mvI rfl) (Rr (ZB (p := i) (b := 1) rfl rfl (by omega)) (Qo rfl (Zg call68 rfl rfl rfl) (Ok.mono (mendelV_ok _ _ i _ _ hown25 hi2 (by omega)) ?_))))
 rintro v29 w7 ⟨hown29, x8⟩
 have z9 := x8.size
 replace hX := Bel.out hX x8 om2
 obtain ⟨a29, c29, hv29, -⟩ := hown29.sl Zq
 subst hv29
 refine Rr (Q2 (cells := [.slice a29 (L.take i ++ L.drop (i + 1)).length c29]) (vs := [(0, .slice _ _ _)]) rfl (by kernel_rfl)) (QH rfl (QX (v := .agg _) rfl) ?_)
 intro b31 w10 x11 hge31 hb31
 replace hX := hX.ex x11
 replace hown29 := hown29.ext x11
 refine Rr (asP rfl) (Rr Qj (Qc (Qu ⟨_, QT rfl rfl rfl, ?_⟩)))
 change Box _ _ _ [.slice a29 (L.take i ++ L.drop (i + 1)).length c29] at hb31
 exact ⟨⟨_, rfl, mb_new hb31 rfl hown29⟩, hX⟩
