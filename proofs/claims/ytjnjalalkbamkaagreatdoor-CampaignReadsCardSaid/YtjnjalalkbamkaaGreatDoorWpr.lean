/- Walks: what functions return. -/
import Derived.Test.YtjnjalalkbamkaaGreatDoorWbits
import Derived.Test.YtjnjalalkbamkaaGreatDoorRng
import Derived.Test.YtjnjalalkbamkaaGreatDoorDrawC
import Derived.ChangeKeysEq
set_option linter.unusedVariables false
set_option linter.unusedSimpArgs false
set_option linter.unnecessarySimpa false
namespace Go.Proofs.YtjnjalalkbamkaaGreatDoor
open Go Go.Lx Go.RowKit Tryz
set_option maxRecDepth 100000
theorem el_pr : ElT Tryz.prog 48 47 2 16 (.agg #[.int .i64 0, .int .i64 0]) := ⟨underlying48, ⟨Tryz.t47, by kernel_rfl, rfl, rfl, rfl⟩, rfl, by decide, by decide⟩
theorem prBeq (x y : Pr) : (x == y) = ((iv x.1 == iv y.1) && ((iv x.2 == iv y.2) && true)) := by
 rw [iv_beq, iv_beq, Bool.and_true]; rfl
theorem eqi_int (d : Nat) (a b : Int) (w : World) : (Op.equalIn (d + 1) 3 (.int .i64 a) (.int .i64 b)).run Tryz.prog w = .ok (a == b) w := by
 simp [Op.equalIn, run_underlying underlying3]
theorem eqItems_two (d : Nat) (e : TypeId) (xs ys : Array Value) (x y x' y' : Value) (r r' : Bool) (w : World) (ha : ∀ w, (isAgg e).run Tryz.prog w = .ok false w) (h0 : xs[0]? = some x) (h1 : ys[0]? = some y) (h2 : xs[1]? = some x') (h3 : ys[1]? = some y')
  (e0 : ∀ w, (Op.equalIn d e x y).run Tryz.prog w = .ok r w) (e1 : ∀ w, (Op.equalIn d e x' y').run Tryz.prog w = .ok r' w) : (Op.eqItems d e 1 xs ys (List.range 2)).run Tryz.prog w = .ok (r && (r' && true)) w := by
 show (Op.eqItems d e 1 xs ys [0, 1]).run Tryz.prog w = _
 simp only [Op.eqItems, Sem.run_bind, part, ha, Result.andThen_ok, Bool.false_eq_true, if_false, Nat.zero_mul, Nat.one_mul, h0, h1, Sem.run_pure, e0]
 cases r
 ·simp
 ·simp only [Bool.not_true, Bool.false_eq_true, if_false, Sem.run_bind, part, ha, Result.andThen_ok, Nat.one_mul, h2, h3, Sem.run_pure, e1]
  cases r' <;> simp
theorem eq_pr : EqT Tryz.prog 47 encPr := ⟨by kernel_rfl, fun w x y => by
 rw [run_equalIn_array w 9999 _ _ underlying47 (show Tryz.prog.info? 3 = some Tryz.t3 by kernel_rfl), prBeq]
 rw [show Tryz.prog.cellsOf 3 = 1 by kernel_rfl]
 exact eqItems_two 9999 3 _ _ _ _ _ _ _ _ w isAgg3 rfl rfl rfl rfl (eqi_int 9998 _ _) (eqi_int 9998 _ _)⟩
theorem ocmp_ok (β : Prop) (w : World) (a : Pr) (b : Pr) : Ok Tryz.prog 122 #[.agg (encPr a).toArray, .agg (encPr b).toArray] w fun v w' => v = .int .i64 (cmpPr a b) ∧ Ext β w w' := by
 refine Qz 20 func122 rfl rfl rfl ?_
 have hX : Ext β w w := Bel.refl _ _
 refine Qe (Qc ?_)
 refine QJ rfl (Q4 (v := .agg _) rfl) ?_
 intro b2 w1 x2 hge2 hb2
 change Box _ _ _ (encPr _) at hb2
 replace hX := hX.ex x2
 refine QJ rfl (Q4 (v := .agg _) rfl) ?_
 intro b3 w3 x4 hge3 hb3
 change Box _ _ _ (encPr _) at hb3
 replace hX := hX.ex x4
 replace hb2 := hb2.ext x4
 refine Rr Qm ?_
 refine Qd (Qe (Qe (Qc ?_)))
 refine Rr (o_iaA (i := 0) underlying47 sizeOf3 rfl rfl (by decide)) ?_
 refine Rr (Qn isAgg3 rfl (hb2.at.get 0 rfl)) ?_
 refine Rr (o_iaA (i := 0) underlying47 sizeOf3 rfl rfl (by decide)) ?_
 refine Rr (Qn isAgg3 rfl (hb3.at.get 0 rfl)) ?_
 refine Rr (o_neq rfl rfl) ?_
 refine Qd ?_
 refine QD rfl (fun hc1 => ?_) (fun hc1 => ?_)
 ·refine Qe (Qc ?_)
  refine Rr (o_iaA (i := 0) underlying47 sizeOf3 rfl rfl (by decide)) ?_
  refine Rr (Qn isAgg3 rfl (hb2.at.get 0 rfl)) ?_
  refine Rr (o_iaA (i := 0) underlying47 sizeOf3 rfl rfl (by decide)) ?_
  refine Rr (Qn isAgg3 rfl (hb3.at.get 0 rfl)) ?_
  refine Rr (o_sub rfl rfl (by have := iv_ge a.1; have := iv_ge b.1; have := iv_ge a.2; have := iv_ge b.2; unfold I64; omega)) ?_
  refine Rr (asI rfl) ?_
  refine Qd (Qy ?_)
  refine ⟨_, Qp rfl rfl, ?_⟩
  refine ⟨congrArg (Value.int .i64) ?_, hX⟩
  all_goals (rw [cmpPr, if_pos hc1])
 refine Qu (Qe (Qc ?_))
 refine Rr (o_iaA (i := 1) underlying47 sizeOf3 rfl rfl (by decide)) ?_
 refine Rr (Qn isAgg3 rfl (hb2.at.get 1 rfl)) ?_
 refine Rr (o_iaA (i := 1) underlying47 sizeOf3 rfl rfl (by decide)) ?_
 refine Rr (Qn isAgg3 rfl (hb3.at.get 1 rfl)) ?_
 refine Rr (o_sub rfl rfl (by have := iv_ge a.1; have := iv_ge b.1; have := iv_ge a.2; have := iv_ge b.2; unfold I64; omega)) ?_
 refine Rr (asI rfl) ?_
 refine Qd (Qy ?_)
 refine ⟨_, Qp rfl rfl, ?_⟩
 refine ⟨congrArg (Value.int .i64) ?_, hX⟩
 all_goals (rw [cmpPr, if_neg (by rw [hc1]; simp)])

theorem iindex_ok (a : Option Addr) (c : Nat) (B : Nat → Prop) (l : List Int) (x : Int) (w : World) (hs : Sl encJ 1 B w a c l) : Ok Tryz.prog 160 #[.slice a l.length c, .int .i64 x] w fun v w' => v = .int .i64 (ixOf (fun y => x == y) l) ∧ Ext False w w' := by
 have hlen := hs.len
 refine Qz 19 func160 rfl rfl rfl ?_
 have hX := xRf w
 refine Qe (Qc ?_)
 refine Rr Qm ?_
 refine Qd (Qe (Qe (Qc ?_)))
 refine Rr (mvS rfl) ?_
 refine Rr (QK underlying80 rfl) ?_
 refine Rr QT ?_
 refine Qd (QB ?_)
 refine Za (α := Nat) [(4, 5), (8, 18)] (fun k => [(8, .int .i64 (k : Int))]) (fun k w' => (k ≤ l.length ∧ (l.take k).any (fun y => x == y) = false) ∧ Ext False w w') (fun k => l.length - k) 0 ⟨rfl, trivial⟩ ⟨⟨by omega, by simp⟩, Bel.refl _ _⟩ ?_
 rintro k fb3 w2 ⟨⟨hk, hall⟩, hXL1⟩
 replace hX := hX.ex hXL1
 replace hs := hs.ext hXL1
 refine Qe (Qc ?_)
 refine Rr (QQ rfl rfl) ?_
 refine Qd (Qe ?_)
 refine QD rfl (fun hc1 => ?_) (fun hc1 => ?_)
 ·first | replace hc1 := dcT hc1 | replace hc1 := bnot_t hc1 | skip
  refine Qu (Qe (QB (Qe (Qc ?_))))
  refine Rr (mvI rfl) ?_
  refine Rr (asI rfl) ?_
  refine Qd (Qe (Qc ?_))
  refine Rr (mvI rfl) ?_
  refine Rr (mvS rfl) ?_
  refine Rr (mvI rfl) ?_
  refine Rr (Zg underlying80 sizeOf3 hs rfl rfl omg) ?_
  refine Rr (o_ldR isAgg3 hs rfl rfl (getElem?_of (by first | omega | assumption)) rfl) ?_
  refine Rr (Q0 rfl rfl) ?_
  refine Qd ?_
  refine QD rfl (fun hc2 => ?_) (fun hc2 => ?_)
  ·first | replace hc2 := dcT hc2 | replace hc2 := bnot_t hc2 | skip
   refine Qe (Qc ?_)
   refine Rr (mvI rfl) ?_
   refine Rr (asI rfl) ?_
   refine Qd (Qy ?_)
   refine ⟨_, Qp rfl rfl, ?_⟩
   refine ⟨congrArg (Value.int .i64) ?_, hX⟩
   all_goals (exact (ixOf_at (by omega) hall (by simpa using hc2)).symm)
  first | replace hc2 := dcF hc2 | replace hc2 := bnot_f hc2 | skip
  refine Qu (Qc ?_)
  refine Rr (Q6 rfl rfl omg) ?_
  refine Rr (mvI rfl) ?_
  refine Qd ?_
  refine ⟨k + 1, ⟨sT, trivial⟩, oT, ⟨?_, hXL1⟩, ?_⟩
  ·exact ⟨by omega, anyT_succ (by omega) hall (by simpa using hc2)⟩
  ·omega
 first | replace hc1 := dcF hc1 | replace hc1 := bnot_f hc1 | skip
 refine QS (QL (Qe (Qc ?_)))
 refine Rr Qm ?_
 refine Qd (Qy ?_)
 refine ⟨_, Qp rfl rfl, ?_⟩
 refine ⟨congrArg (Value.int .i64) ?_, hX⟩
 all_goals (exact (ixOf_none (k := k) (by omega) hall).symm)

theorem pclone_ok (w : World) (vl : Value) (l : List Pr) (hl : Rd encPr 2 (Lt w.heap.size) w vl l) (nl : l.length ≤ 1000000) : Ok Tryz.prog 186 #[vl] w fun v w' => Own encPr 2 47 (Fsh w w') w' v (l) ∧ Ext False w w' := by
 obtain ⟨al, cl, rfl, hl⟩ := hl; have ml := hl.len
 refine Qz 8 func186 rfl rfl rfl ?_
 have hX := xRf w
 refine Qe (Qc ?_)
 refine Rr Qm ?_
 refine Qd (Qe (Qe (Qc ?_)))
 refine Rr (mvS rfl) ?_
 refine Rr (o_lnil underlying48 rfl) ?_
 refine Qd ?_
 refine QD rfl (fun hc1 => ?_) (fun hc1 => ?_)
 ·have hnl := sl_none hl hc1; subst hnl
  refine Qe (Qc ?_)
  refine Rr Qm ?_
  refine Qd (Qy ?_)
  refine ⟨_, Qp rfl rfl, ?_⟩
  exact ⟨Own.nil _ _, hX⟩
 refine Qu (Qe (Qc ?_))
 refine Rg_bs (vs := []) (([] : List Pr)) rfl encPr_ok el_pr rfl rfl trivial rfl rfl rfl rfl ?_
 intro a5 w1 x2 hown5
 have z3 := x2.size
 replace hX := hX.ex x2
 replace hl := hl.ext x2
 replace hown5 := hown5.mono (D' := fun g => w.heap.size ≤ g) (fun g h1 h2 => by omega)
 refine Rr (mvS rfl) ?_
 refine Rg_app rfl encPr_ok el_pr rfl rfl hown5 hl rfl (by simp; omega) omU ?_
 intro v7 w4 x5 hown5
 have z6 := x5.size
 replace hX := Bel.out hX x5 om2
 refine Rr (Qv (v := v7) rfl) ?_
 refine Qd (Qy ?_)
 refine ⟨_, Qp rfl rfl, ?_⟩
 rw [List.nil_append] at hown5; exact ⟨hown5.mono (fun g h1 h2 => by omega), hX⟩

theorem icompact_ok (β : Prop) (a : Option Addr) (c : Nat) (B : Nat → Prop) (l : List Pr) (w : World) (ho : Own encPr 2 47 B w (.slice a l.length c) l) : Ok Tryz.prog 124 #[.slice a l.length c] w fun v w' => ∃ m, v = .slice a m c ∧ Own encPr 2 47 B w' (.slice a m c) (compL l) ∧ Bel β B w w' := by
 have hs := ho.slA encPr_ok; have hlen := hs.len; have hcap := ho.capOf.1
 refine Qz 61 func124 rfl rfl rfl ?_
 have hX : Bel β (B) w w := Bel.refl _ _
 refine Qe (Qc ?_)
 refine Rr Qm ?_
 refine Qd (Qe (Qe (Qc ?_)))
 refine Rr (mvS rfl) ?_
 refine Rr (QK underlying48 rfl) ?_
 refine Rr (QQ rfl rfl) ?_
 refine Qd ?_
 refine QD rfl (fun hc1 => ?_) (fun hc1 => ?_)
 ·first | replace hc1 := dcT hc1 | replace hc1 := bnot_t hc1 | skip
  refine Qe (Qc ?_)
  refine Rr (mvS rfl) ?_
  refine Rr (asS rfl) ?_
  refine Qd (Qy ?_)
  refine ⟨_, Qp rfl rfl, ?_⟩
  exact ⟨_, rfl, by rw [comp_one (by omega)]; exact ho, hX⟩
 first | replace hc1 := dcF hc1 | replace hc1 := bnot_f hc1 | skip
 refine Qu (Qe (Qe (Qc ?_)))
 refine Rr Qm ?_
 refine Qd (QB ?_)
 refine Za (α := Nat) [(2, 5), (10, 59)] (fun k => [(3, .int .i64 (k : Int))]) (fun k w' => (1 ≤ k ∧ k ≤ l.length ∧ compL (l.take k) = l.take k) ∧ Bel β (B) w w' ∧ (Own encPr 2 47 B w' (.slice a l.length c) l)) (fun k => l.length - k) 1 ⟨rfl, trivial⟩ ⟨⟨by omega, by omega, comp_take1 (by omega)⟩, Bel.refl _ _, ho⟩ ?_
 rintro k fb3 w2 ⟨⟨hk1, hk, hall⟩, hXL1, ho⟩
 have z4 := Bel.size hXL1
 replace hX := Bel.out hX hXL1 om2
 have hs := ho.slA encPr_ok
 refine Qe (Qe (Qc ?_))
 refine Rr (mvI rfl) ?_
 refine Rr (mvS rfl) ?_
 refine Rr (QK underlying48 rfl) ?_
 refine Rr (QQ rfl rfl) ?_
 refine Qd ?_
 refine QD rfl (fun hc2 => ?_) (fun hc2 => ?_)
 ·first | replace hc2 := dcT hc2 | replace hc2 := bnot_t hc2 | skip
  refine Qu (Qe (QB (Qe ?_)))
  apply W_draw (β := β) [peq _, peq _, peq _, peq _, peq _, peq _, peq _, peq _, peq _, peq _] 10 Q9 (by kernel_rfl) rfl ⟨Qf _, Qf _, Qf _, Qf _, Qf _, Qf _, Qf _, Qf _, Qf _, Qf _, trivial⟩ ?ob6 ?fin6
  case ob6 =>
   refine Qh (fun w5 x6 => ?_) ?_
   ·have z7 := x6.size
    refine Qg ?_
    exact Qt rfl (mvS rfl)
   refine Qh (fun w8 x9 => ?_) ?_
   ·have z10 := x9.size
    refine Qg ?_
    exact Qt rfl (mvI rfl)
   refine Qh (fun w11 x12 => ?_) ?_
   ·have z13 := x12.size
    have ho := ho.ext x12
    refine Qa (Qa (Qg ?_))
    exact Qt rfl (Zf underlying48 sizeOf47 ho rfl rfl (by omega))
   refine Qh (fun w14 x15 => ?_) ?_
   ·have z16 := x15.size
    have hs := hs.ext x15
    refine Qa (Qg ?_)
    exact Qt rfl (o_ldRS isAgg47 sizeOf47 hs rfl (getE pz0 (by omega)))
   refine Qh (fun w17 x18 => ?_) ?_
   ·have z19 := x18.size
    refine Qg ?_
    exact Qt rfl (mvS rfl)
   refine Qh (fun w20 x21 => ?_) ?_
   ·have z22 := x21.size
    refine Qg ?_
    exact Qt rfl (mvI rfl)
   refine Qh (fun w23 x24 => ?_) ?_
   ·have z25 := x24.size
    refine Qa (Qg ?_)
    exact Qt rfl (o_subN (b := 1) rfl rfl (by omega) (by omega))
   refine Qh (fun w26 x27 => ?_) ?_
   ·have z28 := x27.size
    have ho := ho.ext x27
    refine Qa (Qa (Qg ?_))
    exact Qt rfl (Zf underlying48 sizeOf47 ho rfl rfl (by omega))
   refine Qh (fun w29 x30 => ?_) ?_
   ·have z31 := x30.size
    have hs := hs.ext x30
    refine Qa (Qg ?_)
    exact Qt rfl (o_ldRS isAgg47 sizeOf47 hs rfl (getE pz0 (by omega)))
   refine Qh (fun w32 x33 => ?_) ?_
   ·have z34 := x33.size
    refine Qa (Qa (Qg ?_))
    exact Qt rfl (o_teql eq_pr rfl rfl)
   exact Q7
  case fin6 =>
   intro w35 x36
   have z37 := x36.size
   replace hX := hX.ex x36
   replace hXL1 := Bel.ex hXL1 x36
   replace ho := ho.ext x36
   replace hs := hs.ext x36
   refine Qa (Qa (Qa (Qa (Qa (Qa (Qa (Qa (Qa ?_))))))))
   refine Qa (Qg (Qd ?_))
   refine QD rfl (fun hc3 => ?_) (fun hc3 => ?_)
   ·first | replace hc3 := dcT hc3 | replace hc3 := bnot_t hc3 | skip
    refine Qe (Qc ?_)
    refine Rr (mvS rfl) ?_
    refine Rr (mvI rfl) ?_
    refine Rr (o_sfromO (j := k) underlying48 sizeOf47 rfl rfl (by omega) (by omega)) ?_
    refine Rr (asS rfl) ?_
    refine Qd (Qe (Qe (Qc ?_)))
    refine Rr Qm ?_
    refine Qd (QB ?_)
    refine Za (α := List Pr × Nat × Nat) [(3, 3), (5, 5), (29, 53)] (fun p => [(3, .int .i64 (p.2.2 : Int)), (5, .int .i64 (p.2.1 : Int))]) (fun p w' => (1 ≤ p.2.1 ∧ k + p.2.1 ≤ l.length ∧ p.1 = compL (l.take (k + p.2.1)) ∧ p.1.length = p.2.2 ∧ p.2.2 + 1 ≤ k + p.2.1) ∧ Bel β (B) w35 w' ∧ (Own encPr 2 47 B w' (.slice a l.length c) (p.1 ++ l.drop p.1.length))) (fun p => l.length - (k + p.2.1)) (l.take k, 1, k) ⟨rfl, rfl, trivial⟩ ⟨⟨Nat.le_refl _, by show k + 1 ≤ l.length; omega, by rw [comp_eq (z := pz0) (by omega) hk1 (by simpa using hc3), hall], by simp; omega, Nat.le_refl _⟩, Bel.refl _ _, (by rw [List.length_take, Nat.min_eq_left (by omega), List.take_append_drop]; exact ho)⟩ ?_
    rintro p fb40 w39 ⟨⟨hp1, hp2, hp3, hp4, hp5⟩, hXL38, hown⟩
    have z41 := Bel.size hXL38
    replace hX := Bel.out hX hXL38 om2
    replace hXL1 := Bel.out hXL1 hXL38 om2
    have hs := hown.slA encPr_ok
    refine Qe (Qe (Qc ?_))
    refine Rr (mvI rfl) ?_
    refine Rr (mvS rfl) ?_
    refine Rr (QK underlying48 rfl) ?_
    refine Rr (QQ rfl rfl) ?_
    refine Qd ?_
    refine QD rfl (fun hc4 => ?_) (fun hc4 => ?_)
    ·first | replace hc4 := dcT hc4 | replace hc4 := bnot_t hc4 | skip
     refine Qu (Qe (QB (Qe ?_)))
     apply W_draw (β := β) [peq _, peq _, peq _, peq _, peq _, peq _, peq _, peq _, peq _, peq _] 10 Q9 (by kernel_rfl) rfl ⟨Qf _, Qf _, Qf _, Qf _, Qf _, Qf _, Qf _, Qf _, Qf _, Qf _, trivial⟩ ?ob11 ?fin11
     case ob11 =>
      refine Qh (fun w42 x43 => ?_) ?_
      ·have z44 := x43.size
       refine Qg ?_
       exact Qt rfl (mvS rfl)
      refine Qh (fun w45 x46 => ?_) ?_
      ·have z47 := x46.size
       refine Qg ?_
       exact Qt rfl (mvI rfl)
      refine Qh (fun w48 x49 => ?_) ?_
      ·have z50 := x49.size
       have hown := hown.ext x49
       refine Qa (Qa (Qg ?_))
       exact Qt rfl (o_iaO2 (i := p.2.1) underlying48 sizeOf47 hown rfl rfl (by omega) (by omega))
      refine Qh (fun w51 x52 => ?_) ?_
      ·have z53 := x52.size
       have hs := hs.ext x52
       refine Qa (Qg ?_)
       exact Qt rfl (o_ldRS isAgg47 sizeOf47 hs rfl (tail_get (z := pz0) (by omega) (by omega)))
      refine Qh (fun w54 x55 => ?_) ?_
      ·have z56 := x55.size
       refine Qg ?_
       exact Qt rfl (mvS rfl)
      refine Qh (fun w57 x58 => ?_) ?_
      ·have z59 := x58.size
       refine Qg ?_
       exact Qt rfl (mvI rfl)
      refine Qh (fun w60 x61 => ?_) ?_
      ·have z62 := x61.size
       refine Qa (Qg ?_)
       exact Qt rfl (o_subN (b := 1) rfl rfl (by omega) (by omega))
      refine Qh (fun w63 x64 => ?_) ?_
      ·have z65 := x64.size
       have hown := hown.ext x64
       refine Qa (Qa (Qg ?_))
       exact Qt rfl (o_iaO2 (i := p.2.1 - 1) underlying48 sizeOf47 hown rfl rfl (by omega) (by omega))
      refine Qh (fun w66 x67 => ?_) ?_
      ·have z68 := x67.size
       have hs := hs.ext x67
       refine Qa (Qg ?_)
       exact Qt rfl (o_ldRS isAgg47 sizeOf47 hs rfl (tail_get (z := pz0) (by omega) (by omega)))
      refine Qh (fun w69 x70 => ?_) ?_
      ·have z71 := x70.size
       refine Qa (Qa (Qg ?_))
       exact Qt rfl (o_tneq eq_pr rfl rfl)
      exact Q7
     case fin11 =>
      intro w72 x73
      have z74 := x73.size
      replace hX := hX.ex x73
      replace hXL1 := Bel.ex hXL1 x73
      replace hXL38 := Bel.ex hXL38 x73
      replace hown := hown.ext x73
      replace hs := hs.ext x73
      refine Qa (Qa (Qa (Qa (Qa (Qa (Qa (Qa (Qa ?_))))))))
      refine Qa (Qg (Qd ?_))
      refine QD rfl (fun hc5 => ?_) (fun hc5 => ?_)
      ·first | replace hc5 := dcT hc5 | replace hc5 := bnot_t hc5 | skip
       refine Qe (Qc ?_)
       refine Rr (mvS rfl) ?_
       refine Rr (mvI rfl) ?_
       refine Rr (mvS rfl) ?_
       refine Rr (mvI rfl) ?_
       refine Rr (o_iaO2 (i := p.2.1) underlying48 sizeOf47 hown rfl rfl (by omega) (by omega)) ?_
       refine Rr (o_ldRS isAgg47 sizeOf47 hs rfl (tail_get (z := pz0) (by omega) (by omega))) ?_
       refine Rr (Zf underlying48 sizeOf47 hown rfl rfl (by omega)) ?_
       refine Rg_elst (u := l.getD (k + p.2.1) pz0) rfl encPr_ok sizeOf47 rfl rfl rfl hown (by simp; omega) ?_
       intro w75 x76 hown
       have z77 := x76.size
       replace hX := Bel.out hX x76 om2
       replace hXL1 := Bel.out hXL1 x76 om2
       replace hXL38 := Bel.out hXL38 x76 om2
       refine Qd (Qc ?_)
       refine Rr (mvI rfl) ?_
       refine Rr (Q6 rfl rfl omg) ?_
       refine Rr (asI rfl) ?_
       refine Qd (Qc ?_)
       refine Rr (mvI rfl) ?_
       refine Rr (Q6 rfl rfl omg) ?_
       refine Rr (asI rfl) ?_
       refine Qd ?_
       refine ⟨(p.1 ++ [l.getD (k + p.2.1) pz0], p.2.1 + 1, p.2.2 + 1), ⟨sT, sT, trivial⟩, oT, ⟨?_, hXL38, ?_⟩, ?_⟩
       ·exact ⟨by show 1 ≤ p.2.1 + 1; omega, by show k + (p.2.1 + 1) ≤ l.length; omega, by show _ = compL (l.take (k + p.2.1 + 1)); rw [comp_ne (z := pz0) (by omega) (by omega) (by rw [show k + p.2.1 - 1 = k + (p.2.1 - 1) by omega]; simpa using hc5), hp3], by simp [hp4], by show p.2.2 + 1 + 1 ≤ k + (p.2.1 + 1); omega⟩
       ·rw [← hp4, tail_set (by omega)] at hown; exact hown
       ·show l.length - (k + (p.2.1 + 1)) < _; omega
      first | replace hc5 := dcF hc5 | replace hc5 := bnot_f hc5 | skip
      refine Qu (Qc ?_)
      refine Rr (mvI rfl) ?_
      refine Rr (Q6 rfl rfl omg) ?_
      refine Rr (asI rfl) ?_
      refine Qd ?_
      refine ⟨(p.1, p.2.1 + 1, p.2.2), ⟨sT, sT, trivial⟩, oT, ⟨?_, hXL38, ?_⟩, ?_⟩
      ·exact ⟨by show 1 ≤ p.2.1 + 1; omega, by show k + (p.2.1 + 1) ≤ l.length; omega, by show _ = compL (l.take (k + p.2.1 + 1)); rw [comp_eq (z := pz0) (by omega) (by omega) (by rw [show k + p.2.1 - 1 = k + (p.2.1 - 1) by omega]; simpa using hc5), hp3], hp4, by show p.2.2 + 1 ≤ k + (p.2.1 + 1); omega⟩
      ·exact hown
      ·show l.length - (k + (p.2.1 + 1)) < _; omega
    first | replace hc4 := dcF hc4 | replace hc4 := bnot_f hc4 | skip
    refine QS (QL (Qe (Qc ?_)))
    refine Rr (mvS rfl) ?_
    refine Rr (mvI rfl) ?_
    refine Rr (o_sfromO (j := p.2.2) underlying48 sizeOf47 rfl rfl (by omega) (by omega)) ?_
    refine Rg_clear pz0 encPr_ok el_pr rfl rfl hown (by simp; omega) (by simp; omega) ?_
    intro w78 x79 hown
    have z80 := x79.size
    replace hX := Bel.out hX x79 om2
    replace hXL1 := Bel.out hXL1 x79 om2
    refine Qd (Qe (Qc ?_))
    refine Rr (mvS rfl) ?_
    refine Rr (mvI rfl) ?_
    refine Rr (o_slto underlying48 sizeOf47 rfl rfl omg) ?_
    refine Rr (asS rfl) ?_
    refine Qd (Qy ?_)
    refine ⟨_, Qp rfl rfl, ?_⟩
    have e : compL l = p.1 := by rw [hp3, show k + p.2.1 = l.length by omega, List.take_length]
    exact ⟨_, rfl, by rw [e]; exact hown.cutTo encPr_ok hp4, hX⟩
   first | replace hc3 := dcF hc3 | replace hc3 := bnot_f hc3 | skip
   refine Qu (Qc ?_)
   refine Rr (mvI rfl) ?_
   refine Rr (Q6 rfl rfl omg) ?_
   refine Rr (asI rfl) ?_
   refine Qd ?_
   refine ⟨k + 1, ⟨sT, trivial⟩, oT, ⟨?_, hXL1, ?_⟩, ?_⟩
   ·exact ⟨by omega, by omega, by rw [comp_ne (z := pz0) (by omega) hk1 (by simpa using hc3), hall, List.take_succ_eq_append_getElem (by omega)]; simp [List.getD, show k < l.length by omega]⟩
   ·exact ho
   ·omega
 first | replace hc2 := dcF hc2 | replace hc2 := bnot_f hc2 | skip
 refine QS (QL (Qe (Qc ?_)))
 refine Rr (mvS rfl) ?_
 refine Rr (asS rfl) ?_
 refine Qd (Qy ?_)
 refine ⟨_, Qp rfl rfl, ?_⟩
 rw [List.take_of_length_le (by omega)] at hall
 exact ⟨_, rfl, by rw [hall]; exact ho, hX⟩

theorem pclip_ok (a : Option Addr) (c : Nat) (n : Nat) (w : World) (hn : n ≤ c) : Ok Tryz.prog 123 #[.slice a n c] w fun v w' => v = .slice a n n ∧ Ext False w w' := by
 refine Qz 9 func123 rfl rfl rfl ?_
 have hX := xRf w
 refine Qe (Qc ?_)
 refine Rr Qm ?_
 refine Qd (Qe (Qc ?_))
 refine Rr (mvS rfl) ?_
 refine Rr (mvS rfl) ?_
 refine Rr (QK underlying48 rfl) ?_
 refine Rr (mvS rfl) ?_
 refine Rr (QK underlying48 rfl) ?_
 refine Rr (o_sl3 underlying48 sizeOf47 rfl rfl rfl (Nat.le_refl _) hn) ?_
 refine Rr (asS rfl) ?_
 refine Qd (Qy ?_)
 refine ⟨_, Qp rfl rfl, ?_⟩
 exact ⟨rfl, hX⟩

