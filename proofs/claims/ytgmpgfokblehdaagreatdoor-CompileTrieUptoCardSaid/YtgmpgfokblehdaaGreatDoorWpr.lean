/- Walks: what functions return. -/
import Derived.Test.YtgmpgfokblehdaaGreatDoorWbits
import Derived.Test.YtgmpgfokblehdaaGreatDoorPr
import Derived.ChangeKeysEq
set_option linter.unusedVariables false
set_option linter.unusedSimpArgs false
set_option linter.unnecessarySimpa false
namespace Go.Proofs.YtgmpgfokblehdaaGreatDoor
open Go Go.Lx Go.RowKit Tryz
set_option maxRecDepth 100000
theorem el_pr : ElT Tryz.prog 207 208 2 16 (.agg #[.int .i64 0, .int .i64 0]) := ⟨underlying207, ⟨Tryz.t208, by kernel_rfl, rfl, rfl, rfl⟩, rfl, by decide, by decide⟩
theorem prBeq (x y : Pr) : (x == y) = ((iv x.1 == iv y.1) && ((iv x.2 == iv y.2) && true)) := by
 rw [iv_beq, iv_beq, Bool.and_true]; rfl
theorem eqi_int (d : Nat) (a b : Int) (w : World) : (Op.equalIn (d + 1) 3 (.int .i64 a) (.int .i64 b)).run Tryz.prog w = .ok (a == b) w := by
 simp [Op.equalIn, run_underlying underlying3]
theorem eqItems_two (d : Nat) (e : TypeId) (xs ys : Array Value) (x y x' y' : Value) (r r' : Bool) (w : World) (ha : ∀ w, (isAgg e).run Tryz.prog w = .ok false w) (h0 : xs[0]? = some x) (h1 : ys[0]? = some y) (h2 : xs[1]? = some x') (h3 : ys[1]? = some y')
  (e0 : ∀ w, (Op.equalIn d e x y).run Tryz.prog w = .ok r w) (e1 : ∀ w, (Op.equalIn d e x' y').run Tryz.prog w = .ok r' w) : (Op.eqItems d e 1 xs ys (List.range 2)).run Tryz.prog w = .ok (r && (r' && true)) w := by
 show (Op.eqItems d e 1 xs ys [0, 1]).run Tryz.prog w = _
 simp only [Op.eqItems, Sem.run_bind, part, ha, Result.andThen_ok, Bool.false_eq_true, if_false, Nat.zero_mul, Nat.one_mul, h0, h1, Sem.run_pure, e0]
 cases r
 ·simp
 ·simp only [Bool.not_true, Bool.false_eq_true, if_false, Sem.run_bind, part, ha, Result.andThen_ok, Nat.one_mul, h2, h3, Sem.run_pure, e1]
  cases r' <;> simp
theorem eq_pr : EqT Tryz.prog 208 encPr := ⟨by kernel_rfl, fun w x y => by
 rw [run_equalIn_array w 9999 _ _ underlying208 (show Tryz.prog.info? 3 = some Tryz.t3 by kernel_rfl), prBeq]
 rw [show Tryz.prog.cellsOf 3 = 1 by kernel_rfl]
 exact eqItems_two 9999 3 _ _ _ _ _ _ _ _ w isAgg3 rfl rfl rfl rfl (eqi_int 9998 _ _) (eqi_int 9998 _ _)⟩
theorem ocmp_ok (β : Prop) (w : World) (a : Pr) (b : Pr) : Ok Tryz.prog 146 #[.agg (encPr a).toArray, .agg (encPr b).toArray] w fun v w' => v = .int .i64 (cmpPr a b) ∧ Ext β w w' := by
 refine Qv 20 func146 rfl rfl rfl ?_
 have hX : Ext β w w := Bel.refl _ _
 refine Qf (Qb (QH rfl (QX (v := .agg _) rfl) ?_))
 intro b2 w1 x2 hge2 hb2
 replace hX := hX.ex x2
 refine QH rfl (QX (v := .agg _) rfl) ?_
 intro b3 w3 x4 hge3 hb3
 replace hX := hX.ex x4
 replace hb2 := hb2.ext x4
 refine Rr Qj (Qc (Qf (Qf (Qb (Rr (ZO (i := 0) underlying208 sizeOf3 rfl rfl (by decide)) (Rr (Qm isAgg3 rfl (hb2.at.get 0 rfl)) (Rr (ZO (i := 0) underlying208 sizeOf3 rfl rfl (by decide)) (Rr (Qm isAgg3 rfl (hb3.at.get 0 rfl)) (Rr (Zv rfl rfl) (Qc (Qw rfl (fun hc1 => ?_) (fun hc1 => ?_))))))))))))
 ·refine Qf (Qb (Rr (ZO (i := 0) underlying208 sizeOf3 rfl rfl (by decide)) (Rr (Qm isAgg3 rfl (hb2.at.get 0 rfl)) (Rr (ZO (i := 0) underlying208 sizeOf3 rfl rfl (by decide)) (Rr (Qm isAgg3 rfl (hb3.at.get 0 rfl)) ?_)))))
  refine Rr (Yh rfl rfl (by have := ZT a.1; have := ZT b.1; have := ZT a.2; have := ZT b.2; unfold I64; omega)) ?_
  refine Rr (asI rfl) (Qc (Qu ⟨_, Qr rfl rfl, ⟨congrArg (Value.int .i64) ?_, hX⟩⟩))
  all_goals (rw [cmpPr, if_pos hc1])
 refine Qp (Qf (Qb (Rr (ZO (i := 1) underlying208 sizeOf3 rfl rfl (by decide)) (Rr (Qm isAgg3 rfl (hb2.at.get 1 rfl)) (Rr (ZO (i := 1) underlying208 sizeOf3 rfl rfl (by decide)) (Rr (Qm isAgg3 rfl (hb3.at.get 1 rfl)) ?_))))))
 refine Rr (Yh rfl rfl (by have := ZT a.1; have := ZT b.1; have := ZT a.2; have := ZT b.2; unfold I64; omega)) ?_
 refine Rr (asI rfl) (Qc (Qu ⟨_, Qr rfl rfl, ⟨congrArg (Value.int .i64) ?_, hX⟩⟩))
 all_goals (rw [cmpPr, if_neg (by rw [hc1]; simp)])
theorem iindex_ok (a : Option Addr) (c : Nat) (B : Nat → Prop) (l : List Int) (x : Int) (w : World) (hs : Sl encJ 1 B w a c l) : Ok Tryz.prog 200 #[.slice a l.length c, .int .i64 x] w fun v w' => v = .int .i64 (ixOf (fun y => x == y) l) ∧ Ext False w w' := by
 have hlen := hs.len
 refine Qv 19 func200 rfl rfl rfl ?_
 have hX := xRf w
 refine Qf (Qb (Rr Qj (Qc (Qf (Qf (Qb (Rr (mvS rfl) (Rr (QC underlying153 rfl) (Rr QP (Qc (Qt ?_)))))))))))
 refine QU (α := Nat) [(4, 5), (8, 18)] (fun k => [(8, .int .i64 (k : Int))]) (fun k w' => (k ≤ l.length ∧ (l.take k).any (fun y => x == y) = false) ∧ Ext False w w') (fun k => l.length - k) 0 ⟨rfl, trivial⟩ ⟨⟨by omega, by simp⟩, Bel.refl _ _⟩ ?_
 rintro k fb3 w2 ⟨⟨hk, hall⟩, hXL1⟩
 replace hX := hX.ex hXL1
 replace hs := hs.ext hXL1
 refine Qf (Qb (Rr (QM rfl rfl) (Qc (Qf (Qw rfl (fun hc1 => ?_) (fun hc1 => ?_))))))
 ·first | replace hc1 := dcT hc1 | replace hc1 := Zm hc1 | skip
  refine Qp (Qf (Qt (Qf (Qb (Rr (mvI rfl) (Rr (asI rfl) (Qc (Qf (Qb (Rr (mvI rfl) (Rr (mvS rfl) (Rr (mvI rfl) (Rr (QW underlying153 sizeOf3 hs rfl rfl omg) (Rr (Zx isAgg3 hs rfl rfl (getElem?_of (by first | omega | assumption)) rfl) ?_))))))))))))))
  refine Rr (Zu rfl rfl) (Qc (Qw rfl (fun hc2 => ?_) (fun hc2 => ?_)))
  ·first | replace hc2 := dcT hc2 | replace hc2 := Zm hc2 | skip
   refine Qf (Qb (Rr (mvI rfl) (Rr (asI rfl) (Qc (Qu ⟨_, Qr rfl rfl, ⟨congrArg (Value.int .i64) ?_, hX⟩⟩)))))
   all_goals (exact (YH (by omega) hall (by simpa using hc2)).symm)
  first | replace hc2 := dcF hc2 | replace hc2 := Zo hc2 | skip
  refine Qp (Qb (Rr (QO rfl rfl omg) (Rr (mvI rfl) (Qc ⟨k + 1, ⟨sT, trivial⟩, oT, ⟨?_, hXL1⟩, ?_⟩))))
  ·exact ⟨by omega, Jd (by omega) hall (by simpa using hc2)⟩
  ·omega
 first | replace hc1 := dcF hc1 | replace hc1 := Zo hc1 | skip
 refine QN (QI (Qf (Qb (Rr Qj (Qc (Qu ⟨_, Qr rfl rfl, ⟨congrArg (Value.int .i64) ?_, hX⟩⟩))))))
 all_goals (exact (Jo (k := k) (by omega) hall).symm)
theorem pindex_ok (a : Option Addr) (c : Nat) (B : Nat → Prop) (l : List Pr) (x : Pr) (w : World) (hs : Sl encPr 2 B w a c l) : Ok Tryz.prog 183 #[.slice a l.length c, .agg (encPr x).toArray] w fun v w' => v = .int .i64 (ixOf (fun y => x == y) l) ∧ Ext False w w' := by
 have hlen := hs.len
 refine Qv 19 func183 rfl rfl rfl ?_
 have hX := xRf w
 refine Qf (Qb (QH rfl (QX (v := .agg _) rfl) ?_))
 intro b3 w1 x2 hge3 hb3
 replace hX := hX.ex x2
 replace hs := hs.ext x2
 refine Rr Qj (Qc (Qf (Qf (Qb (Rr (mvS rfl) (Rr (QC underlying207 rfl) (Rr QP (Qc (Qt ?_)))))))))
 refine QU (α := Nat) [(4, 5), (8, 18)] (fun k => [(8, .int .i64 (k : Int))]) (fun k w' => (k ≤ l.length ∧ (l.take k).any (fun y => x == y) = false) ∧ Ext False w1 w') (fun k => l.length - k) 0 ⟨rfl, trivial⟩ ⟨⟨by omega, by simp⟩, Bel.refl _ _⟩ ?_
 rintro k fb5 w4 ⟨⟨hk, hall⟩, hXL3⟩
 replace hX := hX.ex hXL3
 replace hs := hs.ext hXL3
 replace hb3 := hb3.ext hXL3
 refine Qf (Qb (Rr (QM rfl rfl) (Qc (Qf (Qw rfl (fun hc1 => ?_) (fun hc1 => ?_))))))
 ·first | replace hc1 := dcT hc1 | replace hc1 := Zm hc1 | skip
  refine Qp (Qf (Qt (Qf (Qb (Rr (mvI rfl) (Rr (asI rfl) (Qc (Qf ?_))))))))
  apply Q3 (β := False) [peq _, peq _, peq _, peq _, peq _, peq _] 6 QV (by kernel_rfl) rfl ⟨Qd _, Qd _, Qd _, Qd _, Qd _, Qd _, trivial⟩ ?ob4 ?fin4
  case ob4 =>
   refine Qg (fun w6 x7 => ?_) ?_
   ·have hb3 := hb3.ext x7
    exact Qe (Qn rfl (QF isAgg208 sizeOf208 rfl hb3.at rfl))
   refine Qg (fun _ _ => Qe (Qn rfl (mvS rfl))) (Qg (fun _ _ => Qe (Qn rfl (mvI rfl))) (Qg (fun w12 x13 => ?_) ?_))
   ·have hs := hs.ext x13
    exact Qa (Qa (Qe (Qn rfl (QW underlying207 sizeOf208 hs rfl rfl omg))))
   refine Qg (fun w14 x15 => ?_) ?_
   ·have hs := hs.ext x15
    exact Qa (Qe (Qn rfl (QY isAgg208 sizeOf208 hs rfl (Ze pz0 (by omega)))))
   exact Qg (fun _ _ => Qa (Qa (Qe (Qn rfl (o_teql eq_pr rfl rfl))))) QR
  case fin4 =>
   intro w18 x19
   replace hX := hX.ex x19
   replace hXL3 := Bel.ex hXL3 x19
   refine Qa (Qa (Qa (Qa (Qa (Qa (Qe (Qc (Qw rfl (fun hc2 => ?_) (fun hc2 => ?_)))))))))
   ·first | replace hc2 := dcT hc2 | replace hc2 := Zm hc2 | skip
    refine Qf (Qb (Rr (mvI rfl) (Rr (asI rfl) (Qc (Qu ⟨_, Qr rfl rfl, ⟨congrArg (Value.int .i64) ?_, hX⟩⟩)))))
    all_goals (exact (YH (by omega) hall (by simpa [List.getD, show k < l.length by omega] using hc2)).symm)
   first | replace hc2 := dcF hc2 | replace hc2 := Zo hc2 | skip
   refine Qp (Qb (Rr (QO rfl rfl omg) (Rr (mvI rfl) (Qc ⟨k + 1, ⟨sT, trivial⟩, oT, ⟨?_, hXL3⟩, ?_⟩))))
   ·exact ⟨by omega, Jd (by omega) hall (by simpa [List.getD, show k < l.length by omega] using hc2)⟩
   ·omega
 first | replace hc1 := dcF hc1 | replace hc1 := Zo hc1 | skip
 refine QN (QI (Qf (Qb (Rr Qj (Qc (Qu ⟨_, Qr rfl rfl, ⟨congrArg (Value.int .i64) ?_, hX⟩⟩))))))
 all_goals (exact (Jo (k := k) (by omega) hall).symm)
theorem pcontains_ok (a : Option Addr) (c : Nat) (B : Nat → Prop) (l : List Pr) (x : Pr) (w : World) (hs : Sl encPr 2 B w a c l) : Ok Tryz.prog 123 #[.slice a l.length c, .agg (encPr x).toArray] w fun v w' => v = .bool (l.any fun y => x == y) ∧ Ext False w w' := by
 refine Qv 9 func123 rfl rfl rfl ?_
 have hX := xRf w
 refine Qf (Qb (QH rfl (QX (v := .agg _) rfl) ?_))
 intro b3 w1 x2 hge3 hb3
 replace hX := hX.ex x2
 replace hs := hs.ext x2
 refine Rr Qj (Qc (Qf (Qb (Rr (mvS rfl) (Rr (QF isAgg208 sizeOf208 rfl hb3.at rfl) (Qo rfl (QB call183 rfl rfl) (Ok.mono (pindex_ok _ _ _ _ _ _ hs) ?_)))))))
 rintro _ w3 ⟨rfl, x4⟩
 replace hX := hX.ex x4
 refine Rr (ZU rfl rfl) (Rr (asB rfl) (Qc (Qu ⟨_, Qr rfl rfl, ⟨cvB ?_, hX⟩⟩)))
 all_goals (exact Vr _ _)
theorem pclone_ok (w : World) (vl : Value) (l : List Pr) (hl : Rd encPr 2 (Lt w.heap.size) w vl l) (nl : l.length ≤ 1100000) : Ok Tryz.prog 184 #[vl] w fun v w' => Own encPr 2 208 (Fsh w w') w' v (l) ∧ Ext False w w' := by
 obtain ⟨al, cl, rfl, hl⟩ := hl; have ml := hl.len
 refine Qv 8 func184 rfl rfl rfl ?_
 have hX := xRf w
 refine Qf (Qb (Rr Qj (Qc (Qf (Qf (Qb (Rr (mvS rfl) (Rr (o_lnil underlying207 rfl) (Qc (Qw rfl (fun hc1 => ?_) (fun hc1 => ?_)))))))))))
 ·have hnl := Vb hl hc1; subst hnl
  exact Qf (Qb (Rr Qj (Qc (Qu ⟨_, Qr rfl rfl, ⟨Own.nil _ _, hX⟩⟩))))
 refine Qp (Qf (Qb (ZP (vs := []) (([] : List Pr)) rfl encPr_ok el_pr rfl rfl trivial rfl rfl rfl rfl ?_)))
 intro a5 w1 x2 hown5
 have z3 := x2.size
 replace hX := hX.ex x2
 replace hl := hl.ext x2
 replace hown5 := hown5.mono (D' := fun g => w.heap.size ≤ g) (fun g h1 h2 => by omega)
 refine Rr (mvS rfl) ?_
 refine ZZ rfl encPr_ok el_pr rfl rfl hown5 hl rfl (by simp; omega) omU ?_
 intro v7 w4 x5 hown5
 replace hX := Bel.out hX x5 om2
 refine Rr (QL (v := v7) rfl) (Qc (Qu ⟨_, Qr rfl rfl, ?_⟩))
 rw [List.nil_append] at hown5; exact ⟨hown5.mono (fun g h1 h2 => by omega), hX⟩
theorem icompact_ok (β : Prop) (a : Option Addr) (c : Nat) (B : Nat → Prop) (l : List Pr) (w : World) (ho : Own encPr 2 208 B w (.slice a l.length c) l) : Ok Tryz.prog 148 #[.slice a l.length c] w fun v w' => ∃ m, v = .slice a m c ∧ Own encPr 2 208 B w' (.slice a m c) (compL l) ∧ Bel β B w w' := by
 have hs := ho.slA encPr_ok; have hlen := hs.len; have hcap := ho.capOf.1
 refine Qv 61 func148 rfl rfl rfl ?_
 have hX : Bel β (B) w w := Bel.refl _ _
 refine Qf (Qb (Rr Qj (Qc (Qf (Qf (Qb (Rr (mvS rfl) (Rr (QC underlying207 rfl) (Rr (QM rfl rfl) (Qc (Qw rfl (fun hc1 => ?_) (fun hc1 => ?_))))))))))))
 ·first | replace hc1 := dcT hc1 | replace hc1 := Zm hc1 | skip
  refine Qf (Qb (Rr (mvS rfl) (Rr (asS rfl) (Qc (Qu ⟨_, Qr rfl rfl, ?_⟩)))))
  exact ⟨_, rfl, by rw [comp_one (by omega)]; exact ho, hX⟩
 first | replace hc1 := dcF hc1 | replace hc1 := Zo hc1 | skip
 refine Qp (Qf (Qf (Qb (Rr Qj (Qc (Qt ?_))))))
 refine QU (α := Nat) [(2, 5), (10, 59)] (fun k => [(3, .int .i64 (k : Int))]) (fun k w' => (1 ≤ k ∧ k ≤ l.length ∧ compL (l.take k) = l.take k) ∧ Bel β (B) w w' ∧ (Own encPr 2 208 B w' (.slice a l.length c) l)) (fun k => l.length - k) 1 ⟨rfl, trivial⟩ ⟨⟨by omega, by omega, comp_take1 (by omega)⟩, Bel.refl _ _, ho⟩ ?_
 rintro k fb3 w2 ⟨⟨hk1, hk, hall⟩, hXL1, ho⟩
 replace hX := Bel.out hX hXL1 om2
 have hs := ho.slA encPr_ok
 refine Qf (Qf (Qb (Rr (mvI rfl) (Rr (mvS rfl) (Rr (QC underlying207 rfl) (Rr (QM rfl rfl) (Qc (Qw rfl (fun hc2 => ?_) (fun hc2 => ?_)))))))))
 ·first | replace hc2 := dcT hc2 | replace hc2 := Zm hc2 | skip
  refine Qp (Qf (Qt (Qf ?_)))
  apply Q3 (β := β) [peq _, peq _, peq _, peq _, peq _, peq _, peq _, peq _, peq _, peq _] 10 QV (by kernel_rfl) rfl ⟨Qd _, Qd _, Qd _, Qd _, Qd _, Qd _, Qd _, Qd _, Qd _, Qd _, trivial⟩ ?ob6 ?fin6
  case ob6 =>
   refine Qg (fun _ _ => Qe (Qn rfl (mvS rfl))) (Qg (fun _ _ => Qe (Qn rfl (mvI rfl))) (Qg (fun w11 x12 => ?_) ?_))
   ·have ho := ho.ext x12
    exact Qa (Qa (Qe (Qn rfl (ZE underlying207 sizeOf208 ho rfl rfl (by omega)))))
   refine Qg (fun w14 x15 => ?_) ?_
   ·have hs := hs.ext x15
    exact Qa (Qe (Qn rfl (QY isAgg208 sizeOf208 hs rfl (Ze pz0 (by omega)))))
   refine Qg (fun _ _ => Qe (Qn rfl (mvS rfl))) (Qg (fun _ _ => Qe (Qn rfl (mvI rfl))) (Qg (fun w23 x24 => Qa (Qe (Qn rfl (Ya (b := 1) rfl rfl (by omega) (by omega))))) (Qg (fun w26 x27 => ?_) ?_)))
   ·have ho := ho.ext x27
    exact Qa (Qa (Qe (Qn rfl (ZE underlying207 sizeOf208 ho rfl rfl (by omega)))))
   refine Qg (fun w29 x30 => ?_) ?_
   ·have hs := hs.ext x30
    exact Qa (Qe (Qn rfl (QY isAgg208 sizeOf208 hs rfl (Ze pz0 (by omega)))))
   exact Qg (fun _ _ => Qa (Qa (Qe (Qn rfl (o_teql eq_pr rfl rfl))))) QR
  case fin6 =>
   intro w35 x36
   replace hX := hX.ex x36
   replace hXL1 := Bel.ex hXL1 x36
   replace ho := ho.ext x36
   replace hs := hs.ext x36
   refine Qa (Qa (Qa (Qa (Qa (Qa (Qa (Qa (Qa (Qa (Qe (Qc (Qw rfl (fun hc3 => ?_) (fun hc3 => ?_)))))))))))))
   ·first | replace hc3 := dcT hc3 | replace hc3 := Zm hc3 | skip
    refine Qf (Qb (Rr (mvS rfl) (Rr (mvI rfl) (Rr (JZ (j := k) underlying207 sizeOf208 rfl rfl (by omega) (by omega)) (Rr (asS rfl) (Qc (Qf (Qf (Qb (Rr Qj (Qc (Qt ?_))))))))))))
    refine QU (α := List Pr × Nat × Nat) [(3, 3), (5, 5), (29, 53)] (fun p => [(3, .int .i64 (p.2.2 : Int)), (5, .int .i64 (p.2.1 : Int))]) (fun p w' => (1 ≤ p.2.1 ∧ k + p.2.1 ≤ l.length ∧ p.1 = compL (l.take (k + p.2.1)) ∧ p.1.length = p.2.2 ∧ p.2.2 + 1 ≤ k + p.2.1) ∧ Bel β (B) w35 w' ∧ (Own encPr 2 208 B w' (.slice a l.length c) (p.1 ++ l.drop p.1.length))) (fun p => l.length - (k + p.2.1)) (l.take k, 1, k) ⟨rfl, rfl, trivial⟩ ⟨⟨Nat.le_refl _, by show k + 1 ≤ l.length; omega, by rw [comp_eq (z := pz0) (by omega) hk1 (by simpa using hc3), hall], by simp; omega, Nat.le_refl _⟩, Bel.refl _ _, (by rw [List.length_take, Nat.min_eq_left (by omega), List.take_append_drop]; exact ho)⟩ ?_
    rintro p fb40 w39 ⟨⟨hp1, hp2, hp3, hp4, hp5⟩, hXL38, hown⟩
    replace hX := Bel.out hX hXL38 om2
    replace hXL1 := Bel.out hXL1 hXL38 om2
    have hs := hown.slA encPr_ok
    refine Qf (Qf (Qb (Rr (mvI rfl) (Rr (mvS rfl) (Rr (QC underlying207 rfl) (Rr (QM rfl rfl) (Qc (Qw rfl (fun hc4 => ?_) (fun hc4 => ?_)))))))))
    ·first | replace hc4 := dcT hc4 | replace hc4 := Zm hc4 | skip
     refine Qp (Qf (Qt (Qf ?_)))
     apply Q3 (β := β) [peq _, peq _, peq _, peq _, peq _, peq _, peq _, peq _, peq _, peq _] 10 QV (by kernel_rfl) rfl ⟨Qd _, Qd _, Qd _, Qd _, Qd _, Qd _, Qd _, Qd _, Qd _, Qd _, trivial⟩ ?ob11 ?fin11
     case ob11 =>
      refine Qg (fun _ _ => Qe (Qn rfl (mvS rfl))) (Qg (fun _ _ => Qe (Qn rfl (mvI rfl))) (Qg (fun w48 x49 => ?_) ?_))
      ·have hown := hown.ext x49
       exact Qa (Qa (Qe (Qn rfl (o_iaO2 (i := p.2.1) underlying207 sizeOf208 hown rfl rfl (by omega) (by omega)))))
      refine Qg (fun w51 x52 => ?_) ?_
      ·have hs := hs.ext x52
       exact Qa (Qe (Qn rfl (QY isAgg208 sizeOf208 hs rfl (J2 (z := pz0) (by omega) (by omega)))))
      refine Qg (fun _ _ => Qe (Qn rfl (mvS rfl))) (Qg (fun _ _ => Qe (Qn rfl (mvI rfl))) (Qg (fun w60 x61 => Qa (Qe (Qn rfl (Ya (b := 1) rfl rfl (by omega) (by omega))))) (Qg (fun w63 x64 => ?_) ?_)))
      ·have hown := hown.ext x64
       exact Qa (Qa (Qe (Qn rfl (o_iaO2 (i := p.2.1 - 1) underlying207 sizeOf208 hown rfl rfl (by omega) (by omega)))))
      refine Qg (fun w66 x67 => ?_) ?_
      ·have hs := hs.ext x67
       exact Qa (Qe (Qn rfl (QY isAgg208 sizeOf208 hs rfl (J2 (z := pz0) (by omega) (by omega)))))
      exact Qg (fun _ _ => Qa (Qa (Qe (Qn rfl (JV eq_pr rfl rfl))))) QR
     case fin11 =>
      intro w72 x73
      replace hXL38 := Bel.ex hXL38 x73
      replace hown := hown.ext x73
      replace hs := hs.ext x73
      refine Qa (Qa (Qa (Qa (Qa (Qa (Qa (Qa (Qa (Qa (Qe (Qc (Qw rfl (fun hc5 => ?_) (fun hc5 => ?_)))))))))))))
      ·first | replace hc5 := dcT hc5 | replace hc5 := Zm hc5 | skip
       refine Qf (Qb (Rr (mvS rfl) (Rr (mvI rfl) (Rr (mvS rfl) (Rr (mvI rfl) (Rr (o_iaO2 (i := p.2.1) underlying207 sizeOf208 hown rfl rfl (by omega) (by omega)) (Rr (QY isAgg208 sizeOf208 hs rfl (J2 (z := pz0) (by omega) (by omega))) (Rr (ZE underlying207 sizeOf208 hown rfl rfl (by omega)) ?_))))))))
       refine ZG (u := l.getD (k + p.2.1) pz0) rfl encPr_ok sizeOf208 rfl rfl rfl hown (by simp; omega) ?_
       intro w75 x76 hown
       replace hXL38 := Bel.out hXL38 x76 om2
       refine Qc (Qb (Rr (mvI rfl) (Rr (QO rfl rfl omg) (Rr (asI rfl) (Qc (Qb (Rr (mvI rfl) (Rr (QO rfl rfl omg) (Rr (asI rfl) (Qc ⟨(p.1 ++ [l.getD (k + p.2.1) pz0], p.2.1 + 1, p.2.2 + 1), ⟨sT, sT, trivial⟩, oT, ⟨?_, hXL38, ?_⟩, ?_⟩))))))))))
       ·exact ⟨by show 1 ≤ p.2.1 + 1; omega, by show k + (p.2.1 + 1) ≤ l.length; omega, by show _ = compL (l.take (k + p.2.1 + 1)); rw [comp_ne (z := pz0) (by omega) (by omega) (by rw [show k + p.2.1 - 1 = k + (p.2.1 - 1) by omega]; simpa using hc5), hp3], by simp [hp4], by show p.2.2 + 1 + 1 ≤ k + (p.2.1 + 1); omega⟩
       ·rw [← hp4, tail_set (by omega)] at hown; exact hown
       ·show l.length - (k + (p.2.1 + 1)) < _; omega
      first | replace hc5 := dcF hc5 | replace hc5 := Zo hc5 | skip
      refine Qp (Qb (Rr (mvI rfl) (Rr (QO rfl rfl omg) (Rr (asI rfl) (Qc ⟨(p.1, p.2.1 + 1, p.2.2), ⟨sT, sT, trivial⟩, oT, ⟨?_, hXL38, ?_⟩, ?_⟩)))))
      ·exact ⟨by show 1 ≤ p.2.1 + 1; omega, by show k + (p.2.1 + 1) ≤ l.length; omega, by show _ = compL (l.take (k + p.2.1 + 1)); rw [comp_eq (z := pz0) (by omega) (by omega) (by rw [show k + p.2.1 - 1 = k + (p.2.1 - 1) by omega]; simpa using hc5), hp3], hp4, by show p.2.2 + 1 ≤ k + (p.2.1 + 1); omega⟩
      ·exact hown
      ·show l.length - (k + (p.2.1 + 1)) < _; omega
    first | replace hc4 := dcF hc4 | replace hc4 := Zo hc4 | skip
    refine QN (QI (Qf (Qb (Rr (mvS rfl) (Rr (mvI rfl) (Rr (JZ (j := p.2.2) underlying207 sizeOf208 rfl rfl (by omega) (by omega)) ?_))))))
    refine Vc pz0 encPr_ok el_pr rfl rfl hown (by simp; omega) (by simp; omega) ?_
    intro w78 x79 hown
    replace hX := Bel.out hX x79 om2
    refine Qc (Qf (Qb (Rr (mvS rfl) (Rr (mvI rfl) (Rr (Jm underlying207 sizeOf208 rfl rfl omg) (Rr (asS rfl) (Qc (Qu ⟨_, Qr rfl rfl, ?_⟩))))))))
    have e : compL l = p.1 := by rw [hp3, show k + p.2.1 = l.length by omega, List.take_length]
    exact ⟨_, rfl, by rw [e]; exact hown.cutTo encPr_ok hp4, hX⟩
   first | replace hc3 := dcF hc3 | replace hc3 := Zo hc3 | skip
   refine Qp (Qb (Rr (mvI rfl) (Rr (QO rfl rfl omg) (Rr (asI rfl) (Qc ⟨k + 1, ⟨sT, trivial⟩, oT, ⟨?_, hXL1, ?_⟩, ?_⟩)))))
   ·exact ⟨by omega, by omega, by rw [comp_ne (z := pz0) (by omega) hk1 (by simpa using hc3), hall, List.take_succ_eq_append_getElem (by omega)]; simp [List.getD, show k < l.length by omega]⟩
   ·exact ho
   ·omega
 first | replace hc2 := dcF hc2 | replace hc2 := Zo hc2 | skip
 refine QN (QI (Qf (Qb (Rr (mvS rfl) (Rr (asS rfl) (Qc (Qu ⟨_, Qr rfl rfl, ?_⟩)))))))
 rw [List.take_of_length_le (by omega)] at hall
 exact ⟨_, rfl, by rw [hall]; exact ho, hX⟩
theorem pclip_ok (a : Option Addr) (c : Nat) (n : Nat) (w : World) (hn : n ≤ c) : Ok Tryz.prog 147 #[.slice a n c] w fun v w' => v = .slice a n n ∧ Ext False w w' := by
 refine Qv 9 func147 rfl rfl rfl ?_
 have hX := xRf w
 exact Qf (Qb (Rr Qj (Qc (Qf (Qb (Rr (mvS rfl) (Rr (mvS rfl) (Rr (QC underlying207 rfl) (Rr (mvS rfl) (Rr (QC underlying207 rfl) (Rr (o_sl3 underlying207 sizeOf208 rfl rfl rfl (Nat.le_refl _) hn) (Rr (asS rfl) (Qc (Qu ⟨_, Qr rfl rfl, ⟨rfl, hX⟩⟩))))))))))))))
