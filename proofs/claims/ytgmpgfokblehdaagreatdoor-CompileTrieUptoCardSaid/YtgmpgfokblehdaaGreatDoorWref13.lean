/- Walks: what functions return. -/
import Derived.Test.YtgmpgfokblehdaaGreatDoorWgr
import Derived.Test.YtgmpgfokblehdaaGreatDoorWnew
set_option linter.unusedVariables false
set_option linter.unusedSimpArgs false
set_option linter.unnecessarySimpa false
namespace Go.Proofs.YtgmpgfokblehdaaGreatDoor
open Go Go.Lx Go.RowKit Tryz
set_option maxRecDepth 100000
theorem r13find_ok (a : Option Addr) (c : Nat) (G : Nat → Prop) (l : List Ent) (x : Ent) (w : World) (hs : Sl encE 4 G w a c l) : Ok Tryz.prog 82 #[.slice a l.length c, .agg (encE x).toArray] w fun v w' => v = .int .i64 (ixOf (fun y => y == x) l) ∧ Ext False w w' := by
 have hlen := hs.len
 replace hs := hs.mono (F' := fun g => g < w.heap.size) (fun g h1 h2 => h1)
 refine Qv 19 func82 rfl rfl rfl ?_
 have hX := xRf w
 refine Qf (Qb (QH rfl (QX (v := .agg _) rfl) ?_))
 intro b3 w1 x2 hge3 hb3
 have hlt3 := hb3.lt
 have z3 := x2.size
 replace hX := hX.ex x2
 replace hs := hs.ext x2
 refine Rr Qj (Qc (Qf (Qf (Qb (Rr (mvS rfl) (Rr (QC underlying26 rfl) (Rr QP (Qc (Qt ?_)))))))))
 refine QU (α := Nat) [(4, 6), (9, 18)] (fun k => [(9, .int .i64 (k : Int))]) (fun k w' => (k ≤ l.length ∧ (l.take k).any (fun y => y == x) = false) ∧ Ext False w1 w') (fun k => l.length - k) 0 ⟨rfl, trivial⟩ ⟨⟨by omega, by simp⟩, Bel.refl _ _⟩ ?_
 rintro k fb6 w5 ⟨⟨hk, hall⟩, hXL4⟩
 have z7 := Bel.size hXL4
 replace hX := hX.ex hXL4
 replace hs := hs.ext hXL4
 replace hb3 := hb3.ext hXL4
 refine Qf (Qb (Rr (QM rfl rfl) (Qc (Qf (Qw rfl (fun hc1 => ?_) (fun hc1 => ?_))))))
 ·replace hc1 := dcT hc1
  refine Qp (Qf (Qt (Qf (Qb (Rr (mvI rfl) (Rr (QW underlying26 sizeOf88 hs rfl rfl omg) (Rr (QY isAgg88 sizeOf88 hs rfl (Ze ez (by omega))) (QH rfl (Q4 zeroValue88) ?_))))))))
  intro b6 w8 x9 hge6 hb6
  have hlt6 := hb6.lt
  have z10 := x9.size
  replace hX := hX.ex x9
  replace hXL4 := Bel.ex hXL4 x9
  replace hb3 := hb3.ext x9
  refine Rr (asI rfl) (QS (v := .agg _) rfl sizeOf88 rfl rfl hb6 rfl rfl rfl ?_)
  intro w11 c12 hb6
  have z13 := Bel.size c12
  replace hX := Bel.out hX c12 om2
  replace hXL4 := Bel.out hXL4 c12 om2
  replace hb3 := hb3.keep c12 om1
  refine Qc (Qf (Qb (Rr (QF isAgg88 sizeOf88 rfl hb6.at rfl) (Rr (QF isAgg88 sizeOf88 rfl hb3.at rfl) (Rr (o_teql eq_rent rfl rfl) (Qc (Qw rfl (fun hc2 => ?_) (fun hc2 => ?_))))))))
  ·refine Qf (Qb (Rr (mvI rfl) (Rr (asI rfl) (Qc (Qu ⟨_, Qr rfl rfl, ⟨congrArg (Value.int .i64) ?_, hX⟩⟩)))))
   all_goals (exact (YH (by omega) hall (by simpa [List.getD, show k < l.length by omega] using hc2)).symm)
  refine Qp (Qb (Rr (QO rfl rfl omg) (Rr (mvI rfl) (Qc ⟨k + 1, ⟨sT, trivial⟩, oT, ⟨?_, hXL4⟩, ?_⟩))))
  ·exact ⟨by omega, Jd (by omega) hall (by simpa [List.getD, show k < l.length by omega] using hc2)⟩
  ·omega
 replace hc1 := dcF hc1
 refine QN (QI (Qf (Qb (Rr Qj (Qc (Qu ⟨_, Qr rfl rfl, ⟨congrArg (Value.int .i64) ?_, hX⟩⟩))))))
 all_goals (exact (Jo (k := k) (by omega) hall).symm)
theorem r13less_ok (a b : Ent) (ha : a.p.ok) (hb : b.p.ok) (w : World) : Ok Tryz.prog 84 #[.agg (encE a).toArray, .agg (encE b).toArray] w fun v w' => v = .bool (lessE a b) ∧ Ext False w w' := by
 refine Qv 21 func84 rfl rfl rfl ?_
 have hX := xRf w
 refine Qf (Qb (QH rfl (QX (v := .agg _) rfl) ?_))
 intro b2 w1 x2 hge2 hb2
 replace hX := hX.ex x2
 refine QH rfl (QX (v := .agg _) rfl) ?_
 intro b3 w3 x4 hge3 hb3
 replace hX := hX.ex x4
 replace hb2 := hb2.ext x4
 refine Rr Qj (Qc (Qf (Qf (Qb (Rr (Qy underlying88 rfl sizeOf3 rfl) (Rr (Qm isAgg3 rfl (hb2.at.get 0 rfl)) (Rr (Qy underlying88 rfl sizeOf3 rfl) (Rr (Qm isAgg3 rfl (hb3.at.get 0 rfl)) (Rr (Zv rfl rfl) (Qc (Qw rfl (fun hc1 => ?_) (fun hc1 => ?_))))))))))))
 ·refine Qf (Qb (Rr (Qy underlying88 rfl sizeOf3 rfl) (Rr (Qm isAgg3 rfl (hb2.at.get 0 rfl)) (Rr (Qy underlying88 rfl sizeOf3 rfl) (Rr (Qm isAgg3 rfl (hb3.at.get 0 rfl)) (Rr (QM rfl rfl) (Rr (asB rfl) (Qc (Qu ⟨_, Qr rfl rfl, ⟨cvB ?_, hX⟩⟩)))))))))
  all_goals (exact lessE_ne hc1)
 refine Qp (Qf (Qb (Rr (Qy underlying88 rfl sizeOf78 rfl) (Rr (QF isAgg78 sizeOf78 rfl (hb2.at.sub 1 3) rfl) (Rr (Qy underlying88 rfl sizeOf78 rfl) (Rr (QF isAgg78 sizeOf78 rfl (hb3.at.sub 1 3) rfl) (Qo rfl (QB call143 rfl rfl) (Ok.mono (rcompare_ok _ _ ha _ hb) ?_))))))))
 rintro _ w5 ⟨rfl, x6⟩
 replace hX := hX.ex x6
 refine Rr (QM rfl rfl) (Rr (asB rfl) (Qc (Qu ⟨_, Qr rfl rfl, ⟨cvB ?_, hX⟩⟩)))
 all_goals (exact lessE_eq hc1)
theorem r13grant_ok (v0 : Value) (G : Nat → Prop) (m : List Ent) (w : World) (hs : Rd encE 4 G w v0 m) (hm : OkG m) (e : Ent) (he : e.p.ok) : Ok Tryz.prog 33 #[v0, .agg (encE e).toArray] w fun v w' => (∃ p, v = .tuple #[p, .int .i64 (grantR m e).2] ∧ Rd encE 4 (fun g => G g ∨ Fsh w w' g) w' p (grantR m e).1) ∧ Ext False w w' := by
 obtain ⟨a, c, rfl, hs⟩ := hs
 replace hs := hs.mono (F' := fun g => G g ∧ g < w.heap.size) (fun g h1 h2 => ⟨h2, h1⟩)
 have hlen := hm.len
 refine Qv 65 func33 rfl rfl rfl ?_
 have hX := xRf w
 refine Qf (Qb (QH rfl (QX (v := .agg _) rfl) ?_))
 intro b3 w1 x2 hge3 hb3
 have hlt3 := hb3.lt
 have z3 := x2.size
 replace hX := hX.ex x2
 replace hs := hs.ext x2
 refine Rr Qj (Rr Qj (Qc (Qf (Qf (Qb (Rr (Qy underlying88 rfl sizeOf3 rfl) (Rr (Qm isAgg3 rfl (hb3.at.get 0 rfl)) (Rr (QM rfl rfl) (Rr (mvB rfl) (Qs 3 14 rfl rfl rfl (fun hg => Qy underlying88 rfl sizeOf3 rfl) (Qs 3 14 rfl rfl rfl (fun hg => Qm isAgg3 (QK (u := undef) hg) (hb3.at.get 0 rfl)) (Qs 3 14 rfl rfl rfl (fun hg => ZM (QK (u := undef) hg) rfl) (Rr (ZS (u := undef) rfl rfl) (Qc (Qw rfl (fun hc1 => ?_) (fun hc1 => ?_))))))))))))))))
 ·have hr : e.r < 1 ∨ 63 < e.r := by simpa using hc1
  refine Qf (Qb (Rr (mvS rfl) (Rr (asS rfl) (Rr Qj (Qc (Qu ⟨_, QT rfl rfl rfl, ?_⟩))))))
  have e0 : grantR m e = (m, 1) := by rw [grantR, if_pos hr]
  rw [e0]
  exact ⟨⟨_, rfl, (hs.mono fun g h1 h2 => .inl h2.1).rd⟩, hX⟩
 have hr : ¬ (e.r < 1 ∨ 63 < e.r) := by simpa using hc1
 refine Qp (Qf (Qf (Qb (Rr (Qy underlying88 rfl sizeOf78 rfl) (Rr (QF isAgg78 sizeOf78 rfl (hb3.at.sub 1 3) rfl) (Qo rfl (QD call83 rfl) (Ok.mono (rcheck_ok _ _ he) ?_)))))))
 rintro _ w4 ⟨rfl, x5⟩
 have z6 := x5.size
 replace hX := hX.ex x5
 replace hs := hs.ext x5
 replace hb3 := hb3.ext x5
 refine Rr (asI rfl) (Qc (Qf (Qb (Rr (mvI rfl) (Rr (Zv rfl rfl) (Qc (Qw rfl (fun hc2 => ?_) (fun hc2 => ?_))))))))
 ·have hk0 : checkS e.p ≠ 0 := by simpa using hc2
  refine Qf (Qb (Rr (mvS rfl) (Rr (mvI rfl) (Rr (asS rfl) (Rr (asI rfl) (Qc (Qu ⟨_, QT rfl rfl rfl, ?_⟩)))))))
  have e0 : grantR m e = (m, checkS e.p) := by rw [grantR, if_neg hr, if_pos hk0]
  rw [e0]
  exact ⟨⟨_, rfl, (hs.mono fun g h1 h2 => .inl h2.1).rd⟩, hX⟩
 have hk0 : ¬ checkS e.p ≠ 0 := by simpa using hc2
 have hve : Ve e := ⟨by omega, by omega, he, by omega⟩
 refine Qp (Qf (Qf (Qb (Rr (mvS rfl) (Rr (QF isAgg88 sizeOf88 rfl hb3.at rfl) (Qo rfl (QB call82 rfl rfl) (Ok.mono (r13find_ok _ _ _ m e _ hs) ?_)))))))
 rintro _ w7 ⟨rfl, x8⟩
 have z9 := x8.size
 replace hX := hX.ex x8
 replace hs := hs.ext x8
 replace hb3 := hb3.ext x8
 refine Rr (ZU rfl rfl) (Qc (Qw rfl (fun hc3 => ?_) (fun hc3 => ?_)))
 ·have hin : e ∈ m := by
   have h0 := dcT hc3
   exact Decidable.byContradiction fun h => by have := dcT (ixE.trans (decide_eq_true h)); omega
  refine Qf (Qb (Rr (mvS rfl) (Rr (asS rfl) (Rr Qj (Qc (Qu ⟨_, QT rfl rfl rfl, ?_⟩))))))
  have e0 : grantR m e = (m, 5) := by rw [grantR, if_neg hr, if_neg hk0, if_pos hin]
  rw [e0]
  exact ⟨⟨_, rfl, (hs.mono fun g h1 h2 => .inl h2.1).rd⟩, hX⟩
 have hin : e ∉ m := dcT (by rw [← ixE]; have := dcF hc3; exact decide_eq_true (by omega))
 refine Qp (Qf (Qf (Qb (Rr (mvS rfl) (Rr (QC underlying26 rfl) (Rr (ZU rfl rfl) (Qc (Qw rfl (fun hc4 => ?_) (fun hc4 => ?_)))))))))
 ·replace hc4 := dcT hc4
  refine Qf (Qb (Rr (mvS rfl) (Rr (asS rfl) (Rr Qj (Qc (Qu ⟨_, QT rfl rfl rfl, ?_⟩))))))
  have e0 : grantR m e = (m, 14) := by rw [grantR, if_neg hr, if_neg hk0, if_neg hin, if_pos (by omega)]
  rw [e0]
  exact ⟨⟨_, rfl, (hs.mono fun g h1 h2 => .inl h2.1).rd⟩, hX⟩
 replace hc4 := dcF hc4
 refine Qp (Qf (Qb (Rr Qj (Qc (Qf (Qb (Rr Qj (Qc (Qf (Qf (Qb (Rr (mvS rfl) (Rr (QC underlying26 rfl) (Rr QP (Qc (Qt (QU (α := Nat × Value) [(7, 8), (10, 10), (38, 57)] (fun q => [(38, .int .i64 (q.1 : Int)), (7, q.2), (8, .bool (insD m e q.1))]) (fun q w' => (q.1 ≤ m.length) ∧ Bel False (fun g => w7.heap.size ≤ g) w7 w' ∧ (Own encE 4 88 (fun g => w7.heap.size ≤ g) w' q.2 (insO m e q.1))) (fun q => m.length - q.1) (0, .slice none 0 0) ⟨rfl, rfl, rfl, trivial⟩ ⟨Nat.zero_le _, Bel.refl _ _, Own.nil _ _⟩ ?_)))))))))))))))))
 rintro ⟨k, t⟩ fb12 w11 ⟨hk, hXL10, hown⟩
 dsimp only at *
 have z13 := Bel.size hXL10
 replace hX := Bel.out hX hXL10 om2
 replace hs := hs.keep hXL10 om3
 replace hb3 := hb3.keep hXL10 om1
 refine Qf (Qb (Rr (QM rfl rfl) (Qc (Qf (Qw rfl (fun hc5 => ?_) (fun hc5 => ?_))))))
 ·replace hc5 := dcT hc5
  refine Qp (Qf (Qt (Qf (Qb (Rr (QW underlying26 sizeOf88 hs rfl rfl omg) (Rr (QY isAgg88 sizeOf88 hs rfl (Ze ez (by omega))) (Zk rfl rfl zeroValue88 rfl sizeOf88 (fun _ => rfl) rfl rfl ?_)))))))
  intro b10 w14 x15 hge10 hb10
  replace hown := hown.mono (D' := fun g => w7.heap.size ≤ g ∧ g ≠ b10) (fun g h1 h2 => by omega)
  have hlt10 := hb10.lt
  have z16 := x15.size
  replace hXL10 := Bel.ex hXL10 x15
  replace hb3 := hb3.ext x15
  replace hown := hown.ext x15
  refine Qc (Qf (Qf (Qb (Rr (mvB rfl) (Rr (Zp rfl) (Rr (mvB rfl) (Qs 2 44 rfl rfl rfl (fun hg => QF isAgg88 sizeOf88 rfl hb3.at rfl) (Qs 2 44 rfl rfl rfl (fun hg => QF isAgg88 sizeOf88 rfl hb10.at rfl) (Zy 2 44 rfl rfl rfl (fun hg => ⟨(QB call84 (QK (u := undef) hg) (QK (u := undef) hg)), r13less_ok _ _ he (hm.ve _ (gm (z := ez) (show k < m.length by omega))).2.2.1 _⟩) ?_)))))))))
  intro w17 x18
  have z19 := x18.size
  replace hXL10 := Bel.ex hXL10 x18
  replace hb3 := hb3.ext x18
  replace hown := hown.ext x18
  replace hb10 := hb10.ext x18
  refine Rr (Zt (u := undef) rfl rfl) (Qc (Qw rfl (fun hc6 => ?_) (fun hc6 => ?_)))
  ·have hd0 : insD m e k = false ∧ lessE e (m.getD k ez) = true := by simpa using hc6
   refine Qf (Qb (Rr (QG (v := t) rfl) (Rr (QF isAgg88 sizeOf88 rfl hb3.at rfl) (ZP (vs := [.agg _]) ([e]) rfl QZ Ju rfl rfl ⟨rfl, trivial⟩ rfl rfl rfl rfl ?_))))
   intro a51 w20 x21 hown51
   have z22 := x21.size
   replace hXL10 := Bel.ex hXL10 x21
   replace hown := hown.ext x21
   replace hb10 := hb10.ext x21
   replace hown51 := hown51.mono (D' := fun g => w7.heap.size ≤ g) (fun g h1 h2 => by omega)
   refine ZZ rfl QZ Ju rfl rfl hown (hown51.slA QZ) rfl (by have := Vo m e k; simp; omega) omU ?_
   intro v52 w23 x24 hown
   have z25 := x24.size
   replace hXL10 := Bel.out hXL10 x24 om2
   replace hb10 := hb10.keep x24 om1
   refine Rr (QL (v := v52) rfl) (Qc (Qb (Rr Qj (Qc (Qb (Rr (QG (v := v52) rfl) (Rr (QF isAgg88 sizeOf88 rfl hb10.at rfl) (ZP (vs := [.agg _]) ([(m.getD k ez)]) rfl QZ Ju rfl rfl ⟨rfl, trivial⟩ rfl rfl rfl rfl ?_))))))))
   intro a55 w26 x27 hown55
   have z28 := x27.size
   replace hXL10 := Bel.ex hXL10 x27
   replace hown := hown.ext x27
   replace hown55 := hown55.mono (D' := fun g => w7.heap.size ≤ g) (fun g h1 h2 => by omega)
   refine ZZ rfl QZ Ju rfl rfl hown (hown55.slA QZ) rfl (by have := Vo m e k; simp; omega) omU ?_
   intro v56 w29 x30 hown
   replace hXL10 := Bel.out hXL10 x30 om2
   refine Rr (QL (v := v56) rfl) (Qc (Qb (Rr (QO rfl rfl omg) (Rr (mvI rfl) (Qc ⟨(k + 1, v56), ⟨sT, sT, ?_, trivial⟩, oT, ⟨?_, hXL10, ?_⟩, ?_⟩)))))
   ·exact cvB (ins_yes (by omega) hd0.1 hd0.2).2.symm
   ·show k + 1 ≤ m.length; omega
   ·show Own _ _ _ _ _ _ (insO m e (k + 1))
    rw [(ins_yes (by omega) hd0.1 hd0.2).1]; exact hown.mono (fun g h1 h2 => h2.1)
   ·show m.length - (k + 1) < m.length - k; omega
  skip
  refine Qp (Qb (Rr (QG (v := t) rfl) (Rr (QF isAgg88 sizeOf88 rfl hb10.at rfl) (ZP (vs := [.agg _]) ([(m.getD k ez)]) rfl QZ Ju rfl rfl ⟨rfl, trivial⟩ rfl rfl rfl rfl ?_))))
  intro a55 w32 x33 hown55
  have z34 := x33.size
  replace hXL10 := Bel.ex hXL10 x33
  replace hown := hown.ext x33
  replace hown55 := hown55.mono (D' := fun g => w7.heap.size ≤ g) (fun g h1 h2 => by omega)
  refine ZZ rfl QZ Ju rfl rfl hown (hown55.slA QZ) rfl (by have := Vo m e k; simp; omega) omU ?_
  intro v56 w35 x36 hown
  replace hXL10 := Bel.out hXL10 x36 om2
  refine Rr (QL (v := v56) rfl) (Qc (Qb (Rr (QO rfl rfl omg) (Rr (mvI rfl) (Qc ⟨(k + 1, v56), ⟨sT, sT, ?_, trivial⟩, oT, ⟨?_, hXL10, ?_⟩, ?_⟩)))))
  ·exact cvB (ins_no (by omega) hc6).2.symm
  ·show k + 1 ≤ m.length; omega
  ·show Own _ _ _ _ _ _ (insO m e (k + 1))
   rw [(ins_no (by omega) hc6).1]; exact hown.mono (fun g h1 h2 => h2.1)
  ·show m.length - (k + 1) < m.length - k; omega
 replace hc5 := dcF hc5
 refine QN (QI (Qf (Qf (Qb (Rr (mvB rfl) (Rr (Zp rfl) (Qc (Qw rfl (fun hc7 => ?_) (fun hc7 => ?_)))))))))
 ·have hd1 : insD m e k = false := by simpa using hc7
  refine Qb (Rr (QG (v := t) rfl) (Rr (QF isAgg88 sizeOf88 rfl hb3.at rfl) (ZP (vs := [.agg _]) ([e]) rfl QZ Ju rfl rfl ⟨rfl, trivial⟩ rfl rfl rfl rfl ?_)))
  intro a62 w38 x39 hown62
  have z40 := x39.size
  replace hX := hX.ex x39
  replace hown := hown.ext x39
  replace hown62 := hown62.mono (D' := fun g => w7.heap.size ≤ g) (fun g h1 h2 => by omega)
  refine ZZ rfl QZ Ju rfl rfl hown (hown62.slA QZ) rfl (by have := Vo m e k; simp; omega) omU ?_
  intro v63 w41 x42 hown
  have z43 := x42.size
  replace hX := Bel.out hX x42 om2
  refine Rr (QL (v := v63) rfl) (Qc (Qf (Qb (Rr (QG (v := v63) rfl) (Rr (QL (v := v63) rfl) (Rr Qj (Qc (Qu ⟨_, QT rfl rfl rfl, ?_⟩))))))))
  have e0 : grantR m e = (insGo cmpE e m, 0) := by rw [grantR, if_neg hr, if_neg hk0, if_neg hin, if_neg (by omega)]
  rw [e0, ins_end (k := k) (by omega), hd1]
  exact ⟨⟨_, rfl, Rd.mono (hown.rd QZ) fun g h1 h2 => .inr ⟨by omega, h1⟩⟩, hX⟩
 have hd1 : insD m e k = true := by simpa using hc7
 refine Qp (Qf (Qb (Rr (QG (v := t) rfl) (Rr (QL (v := t) rfl) (Rr Qj (Qc (Qu ⟨_, QT rfl rfl rfl, ?_⟩)))))))
 have e0 : grantR m e = (insGo cmpE e m, 0) := by rw [grantR, if_neg hr, if_neg hk0, if_neg hin, if_neg (by omega)]
 rw [e0, ins_end (k := k) (by omega), hd1]
 exact ⟨⟨_, rfl, Rd.mono (hown.rd QZ) fun g h1 h2 => .inr ⟨by omega, h1⟩⟩, hX⟩
theorem r13drop_ok (v0 : Value) (G : Nat → Prop) (m : List Ent) (w : World) (hs : Rd encE 4 G w v0 m) (hm : OkG m) (e : Ent) : Ok Tryz.prog 32 #[v0, .agg (encE e).toArray] w fun v w' => (∃ p, v = .tuple #[p, .int .i64 (dropR m e).2] ∧ Rd encE 4 (Lt w'.heap.size) w' p (dropR m e).1) ∧ Ext False w w' := by
 obtain ⟨a, c, rfl, hs⟩ := hs
 replace hs := hs.mono (F' := fun g => g < w.heap.size) (fun g h1 h2 => h1)
 have hlen := hm.len
 refine Qv 38 func32 rfl rfl rfl ?_
 have hX := xRf w
 refine Qf (Qb (QH rfl (QX (v := .agg _) rfl) ?_))
 intro b3 w1 x2 hge3 hb3
 have hlt3 := hb3.lt
 have z3 := x2.size
 replace hX := hX.ex x2
 replace hs := hs.ext x2
 refine Rr Qj (Rr Qj (Qc (Qf (Qf (Qb (Rr (Qy underlying88 rfl sizeOf3 rfl) (Rr (Qm isAgg3 rfl (hb3.at.get 0 rfl)) (Rr (QM rfl rfl) (Rr (mvB rfl) (Qs 3 12 rfl rfl rfl (fun hg => Qy underlying88 rfl sizeOf3 rfl) (Qs 3 12 rfl rfl rfl (fun hg => Qm isAgg3 (QK (u := undef) hg) (hb3.at.get 0 rfl)) (Qs 3 12 rfl rfl rfl (fun hg => ZM (QK (u := undef) hg) rfl) (Rr (ZS (u := undef) rfl rfl) (Qc (Qw rfl (fun hc1 => ?_) (fun hc1 => ?_))))))))))))))))
 ·have hr : e.r < 1 ∨ 63 < e.r := by simpa using hc1
  refine Qf (Qb (Rr (mvS rfl) (Rr (asS rfl) (Rr Qj (Qc (Qu ⟨_, QT rfl rfl rfl, ?_⟩))))))
  have e0 : dropR m e = (m, 1) := by rw [dropR, if_pos hr]
  rw [e0]
  exact ⟨⟨_, rfl, hs.trd⟩, hX⟩
 have hr : ¬ (e.r < 1 ∨ 63 < e.r) := by simpa using hc1
 refine Qp (Qf (Qf (Qb (Rr (mvS rfl) (Rr (QF isAgg88 sizeOf88 rfl hb3.at rfl) (Qo rfl (QB call82 rfl rfl) (Ok.mono (r13find_ok _ _ _ m e _ hs) ?_)))))))
 rintro _ w4 ⟨rfl, x5⟩
 have z6 := x5.size
 replace hX := hX.ex x5
 replace hs := hs.ext x5
 replace hb3 := hb3.ext x5
 refine Rr (QM rfl rfl) (Qc (Qw rfl (fun hc2 => ?_) (fun hc2 => ?_)))
 ·have hin : e ∉ m := dcT (by rw [← ixE]; exact hc2)
  refine Qf (Qb (Rr (mvS rfl) (Rr (asS rfl) (Rr Qj (Qc (Qu ⟨_, QT rfl rfl rfl, ?_⟩))))))
  have e0 : dropR m e = (m, 4) := by rw [dropR, if_neg hr, if_pos hin]
  rw [e0]
  exact ⟨⟨_, rfl, hs.trd⟩, hX⟩
 have hi0 := dcF hc2
 have hin : e ∈ m := Decidable.byContradiction fun h => hi0 (dcT (by rw [ixE]; simpa using h))
 refine Qp (Qf (Qb (Rr Qj (Qc (Qf (Qf (Qb (Rr (mvS rfl) (Rr (QC underlying26 rfl) (Rr QP (Qc (Qt (QU (α := Nat × Value) [(6, 6), (8, 8), (25, 36)] (fun q => [(25, .int .i64 (q.1 : Int)), (6, q.2)]) (fun q w' => (q.1 ≤ m.length) ∧ Bel False (fun g => w4.heap.size ≤ g) w4 w' ∧ (Own encE 4 88 (fun g => w4.heap.size ≤ g) w' q.2 ((m.take q.1).filter (· != e)))) (fun q => m.length - q.1) (0, .slice none 0 0) ⟨rfl, rfl, trivial⟩ ⟨Nat.zero_le _, Bel.refl _ _, Own.nil _ _⟩ ?_)))))))))))))
 rintro ⟨k, t⟩ fb9 w8 ⟨hk, hXL7, hown⟩
 dsimp only at *
 have z10 := Bel.size hXL7
 replace hX := Bel.out hX hXL7 om2
 replace hs := hs.keep hXL7 om3
 replace hb3 := hb3.keep hXL7 om1
 refine Qf (Qb (Rr (QM rfl rfl) (Qc (Qf (Qw rfl (fun hc3 => ?_) (fun hc3 => ?_))))))
 ·replace hc3 := dcT hc3
  refine Qp (Qf (Qt (Qf (Qb (Rr (QW underlying26 sizeOf88 hs rfl rfl omg) (Rr (QY isAgg88 sizeOf88 hs rfl (Ze ez (by omega))) (Zk rfl rfl zeroValue88 rfl sizeOf88 (fun _ => rfl) rfl rfl ?_)))))))
  intro b8 w11 x12 hge8 hb8
  have hlt8 := hb8.lt
  have z13 := x12.size
  replace hXL7 := Bel.ex hXL7 x12
  replace hb3 := hb3.ext x12
  replace hown := hown.ext x12
  refine Qc (Qf (Qb (Rr (QF isAgg88 sizeOf88 rfl hb8.at rfl) (Rr (QF isAgg88 sizeOf88 rfl hb3.at rfl) (Rr (JV eq_rent rfl rfl) (Qc (Qw rfl (fun hc4 => ?_) (fun hc4 => ?_))))))))
  ·refine Qb (Rr (QG (v := t) rfl) (Rr (QF isAgg88 sizeOf88 rfl hb8.at rfl) (ZP (vs := [.agg _]) ([(m.getD k ez)]) rfl QZ Ju rfl rfl ⟨rfl, trivial⟩ rfl rfl rfl rfl ?_)))
   intro a34 w14 x15 hown34
   have z16 := x15.size
   replace hXL7 := Bel.ex hXL7 x15
   replace hown := hown.ext x15
   replace hown34 := hown34.mono (D' := fun g => w4.heap.size ≤ g) (fun g h1 h2 => by omega)
   refine ZZ rfl QZ Ju rfl rfl hown (hown34.slA QZ) rfl (by have := List.length_filter_le (fun y => y != e) (m.take k); rw [List.length_take] at this; simp at this ⊢; omega) omU ?_
   intro v35 w17 x18 hown
   replace hXL7 := Bel.out hXL7 x18 om2
   refine Rr (QL (v := v35) rfl) (Qc (Qb (Rr (QO rfl rfl omg) (Rr (mvI rfl) (Qc ⟨(k + 1, v35), ⟨sT, sT, trivial⟩, oT, ⟨?_, hXL7, ?_⟩, ?_⟩)))))
   ·show k + 1 ≤ m.length; omega
   ·show Own _ _ _ _ _ _ ((m.take (k + 1)).filter _)
    rw [filt_yes (z := ez) (by omega) hc4]; exact hown
   ·show m.length - (k + 1) < m.length - k; omega
  refine Qp (Qb (Rr (QO rfl rfl omg) (Rr (mvI rfl) (Qc ⟨(k + 1, t), ⟨sT, sT, trivial⟩, oT, ⟨?_, hXL7, ?_⟩, ?_⟩))))
  ·show k + 1 ≤ m.length; omega
  ·show Own _ _ _ _ _ _ ((m.take (k + 1)).filter _)
   rw [filt_no (z := ez) (by omega) hc4]; exact hown
  ·show m.length - (k + 1) < m.length - k; omega
 replace hc3 := dcF hc3
 refine QN (QI (Qf (Qb (Rr (QG (v := t) rfl) (Rr (QL (v := t) rfl) (Rr Qj (Qc (Qu ⟨_, QT rfl rfl rfl, ?_⟩))))))))
 have e0 : dropR m e = (m.filter (· != e), 0) := by rw [dropR, if_neg hr, if_neg (fun h => h hin)]
 rw [e0]
 rw [List.take_of_length_le (by omega)] at hown
 exact ⟨⟨_, rfl, hown.trd QZ⟩, hX⟩
