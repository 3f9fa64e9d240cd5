/- Walks: what functions return. -/
import Derived.Test.YtecjjgljkepajaaGreatDoorWl51
import Derived.Test.YtecjjgljkepajaaGreatDoorSt
set_option linter.unusedVariables false
set_option linter.unusedSimpArgs false
set_option linter.unnecessarySimpa false
namespace Go.Proofs.YtecjjgljkepajaaGreatDoor
open Go Go.Lx Go.RowKit
set_option maxRecDepth 100000
theorem res_two {A B : List COp} (hA : VS A) (hB : VS B) (hl : A.length ≤ 10) (hm : B.length ≤ 10) (c : List Bool) : (resolveO A B c = ([], 1)) ∨ ((resolveO A B c).2 = 0 ∧ (∀ x ∈ (resolveO A B c).1, 0 ≤ x.k ∧ x.k ≤ 255)) := by
 by_cases h : c.length = (badK A B).length
 ·refine .inr ⟨by rw [res_val hA hB h], fun x hx => ?_⟩
  rw [res_val hA hB h] at hx
  have h := (res_vo hA hB c x ((sortO_perm _).mem_iff.1 hx)).rng
  omega
 ·exact .inl (by rw [resolveO, if_pos h])
theorem res_two_len {A B : List COp} (hA : VS A) (hB : VS B) (hl : A.length ≤ 10) (hm : B.length ≤ 10) (c : List Bool) : (resolveO A B c).1.length ≤ 100000 := by
 by_cases h : c.length = (badK A B).length
 ·have h1 := res_len hA hB h
  have h2 : A.length * (A.length + B.length) ≤ 10 * 20 := Nat.mul_le_mul hl (by omega)
  omega
 ·rw [resolveO, if_pos h]; exact Nat.zero_le _
theorem blclone_ok (w : World) (vl : Value) (l : List Bool) (hl : Rd encBl 1 (Lt w.heap.size) w vl l) (nl : l.length ≤ 140737488351232) : Ok Tryz.prog 14 #[vl] w fun v w' => Own encBl 1 4 (Fsh w w') w' v (l) ∧ Ext False w w' := by
 obtain ⟨al, cl, rfl, hl⟩ := hl; have ml := hl.len
 refine Ok_of_W 8 Tryz.func14 rfl rfl rfl ?_
 have hX : Ext False w w := Bel.refl _ _
 refine W_seq (W_region ?_)
 refine Rr o_assignc ?_
 refine Rg_nil (W_seq (W_seq (W_region ?_)))
 refine Rr (mvS rfl) ?_
 refine Rr (o_lnil Tryz.underlying42 rfl) ?_
 refine Rg_nil ?_
 refine W_cond rfl (fun hc1 => ?_) (fun hc1 => ?_)
 ·have hnl := sl_none hl hc1; subst hnl
  refine W_seq (W_region ?_)
  refine Rr o_assignc ?_
  refine Rg_nil (W_ret ?_)
  refine ⟨_, res_tmp rfl rfl, ?_⟩
  exact ⟨Own.nil _ _, hX⟩
 refine W_skip (W_seq (W_region ?_))
 refine Rg_bs (vs := []) (([] : List Bool)) rfl encBl_ok el_bl rfl rfl trivial rfl rfl rfl rfl ?_
 intro a5 w1 x2 hown5
 have z3 := x2.size
 replace hX := hX.ex x2
 replace hl := hl.ext x2
 replace hown5 := hown5.mono (D' := fun g => w.heap.size ≤ g) (fun g h1 h2 => by omega)
 refine Rr (mvS rfl) ?_
 refine Rg_app rfl encBl_ok el_bl rfl rfl hown5 hl rfl (by simp; omega) (fun g h => by omega) ?_
 intro v7 w4 x5 hown5
 have z6 := x5.size
 replace hX := Bel.out hX x5 (fun g h1 h2 => by first | exact h2 | omega)
 refine Rr (o_assignh (v := v7) rfl) ?_
 refine Rg_nil (W_ret ?_)
 refine ⟨_, res_tmp rfl rfl, ?_⟩
 rw [List.nil_append] at hown5; exact ⟨hown5.mono (fun g h1 h2 => by omega), hX⟩

set_option maxHeartbeats 4000000 in
theorem law_MergeResolves (w : World) (v0 : Value) (p : List UInt8) (hp0 : Rd encB 1 (Lt w.heap.size) w v0 p) (a1 a2 a3 : Option Addr) (c1 c2 c3 : Nat) (l m : List RawC) (ch : List Bool) (fit : Bool) (hl0 : Sl encRaw 6 (Lt w.heap.size) w a1 c1 l) (hm0 : Sl encRaw 6 (Lt w.heap.size) w a2 c2 m) (hc0 : Sl encBl 1 (Lt w.heap.size) w a3 c3 ch) (hcl : ch.length ≤ 140737488351232) : Ok Tryz.prog 4 #[v0, .agg #[.slice a1 l.length c1, .slice a2 m.length c2, .slice a3 ch.length c3, .bool fit]] w fun v w' => v = .bool true ∧ Ext False w w' := by
 obtain ⟨ap, cpp, rfl, hp0⟩ := hp0
 have hlp := hp0.len; have hll := hl0.len; have hlm := hm0.len; have hlc := hc0.len
 replace hp0 := hp0.mono (F' := fun g => g < w.heap.size) (fun g h1 h2 => h1)
 replace hl0 := hl0.mono (F' := fun g => g < w.heap.size) (fun g h1 h2 => h1)
 replace hm0 := hm0.mono (F' := fun g => g < w.heap.size) (fun g h1 h2 => h1)
 replace hc0 := hc0.mono (F' := fun g => g < w.heap.size) (fun g h1 h2 => h1)
 refine Ok_of_W 95 Tryz.func4 rfl rfl rfl ?_
 have hX : Ext False w w := Bel.refl _ _
 refine W_seq (W_region ?_)
 refine Rg_newB rfl (o_box (v := .agg _) rfl) ?_
 intro b3 w1 x2 hge3 hb3
 have hlt3 := hb3.lt
 have z3 := x2.size
 replace hX := hX.ex x2
 replace hp0 := hp0.ext x2
 replace hl0 := hl0.ext x2
 replace hm0 := hm0.ext x2
 replace hc0 := hc0.ext x2
 refine Rr o_assignc ?_
 refine Rg_nil (W_seq (W_seq (W_region ?_)))
 refine Rg_enter rfl (o_call0 Tryz.call6) (Ok.mono (awake51_ok _) ?_)
 rintro _ w4 ⟨rfl, x5⟩
 have z6 := x5.size
 replace hX := hX.ex x5
 replace hp0 := hp0.ext x5
 replace hl0 := hl0.ext x5
 replace hm0 := hm0.ext x5
 replace hc0 := hc0.ext x5
 replace hb3 := hb3.ext x5
 refine Rr (o_not rfl) ?_
 refine Rg_nil ?_
 refine W_cond_false rfl ?_
 refine W_skip (W_seq (W_region ?_))
 refine Rr (mvS rfl) ?_
 refine Rr (o_fa Tryz.underlying44 rfl Tryz.sizeOf23 rfl) ?_
 refine Rr (o_load1 Tryz.isAgg23 rfl (hb3.at.get 0 rfl)) ?_
 refine Rr (o_fa Tryz.underlying44 rfl Tryz.sizeOf23 rfl) ?_
 refine Rr (o_load1 Tryz.isAgg23 rfl (hb3.at.get 1 rfl)) ?_
 refine Rg_enter rfl (o_call3 Tryz.call7 rfl rfl rfl) (Ok.mono (lsets_ok _ _ p hp0.trd _ l hl0.trd _ m hm0.trd) ?_)
 rintro _ w7 ⟨⟨a25, c25, b25, d25, a325, c325, a425, c425, X, Y, rfl, ⟨hX0, hY0, hXl, hYl⟩, hsa25, hsb25, hsc25, hsd25⟩, x8⟩
 have z9 := x8.size
 replace hX := hX.ex x8
 replace hc0 := hc0.ext x8
 replace hb3 := hb3.ext x8
 refine Rr (o_moveh (v := .tuple _) rfl) ?_
 refine Rr (o_extract rfl rfl) ?_
 refine Rr (o_extract rfl rfl) ?_
 refine Rr (o_extract rfl rfl) ?_
 refine Rr (o_extract rfl rfl) ?_
 refine Rr (o_extract rfl rfl) ?_
 refine Rg_newB rfl (o_alloc Tryz.zeroValue27) ?_
 intro b5 w10 x11 hge5 hb5
 have hlt5 := hb5.lt
 change Box _ _ _ ([.slice _ _ _]) at hb5
 have z12 := x11.size
 replace hX := hX.ex x11
 replace hc0 := hc0.ext x11
 replace hb3 := hb3.ext x11
 replace hsa25 := hsa25.ext x11
 replace hsb25 := hsb25.ext x11
 replace hsc25 := hsc25.ext x11
 replace hsd25 := hsd25.ext x11
 refine Rg_newB rfl (o_alloc Tryz.zeroValue27) ?_
 intro b6 w13 x14 hge6 hb6
 have hlt6 := hb6.lt
 change Box _ _ _ ([.slice _ _ _]) at hb6
 have z15 := x14.size
 replace hX := hX.ex x14
 replace hc0 := hc0.ext x14
 replace hb3 := hb3.ext x14
 replace hsa25 := hsa25.ext x14
 replace hsb25 := hsb25.ext x14
 replace hsc25 := hsc25.ext x14
 replace hsd25 := hsd25.ext x14
 replace hb5 := hb5.ext x14
 refine Rg_storeW (v := .agg _) rfl Tryz.sizeOf27 rfl rfl hb5 rfl rfl rfl ?_
 intro w16 c17 hb5
 change Box _ _ _ (wsS _ _ _) at hb5
 have z18 := Bel.size c17
 replace hX := Bel.out hX c17 (fun g h1 h2 => by first | exact h2 | omega)
 replace hc0 := hc0.keep c17 (fun g h1 h2 h3 => by omega)
 replace hb3 := hb3.keep c17 (fun h => by omega)
 replace hsa25 := hsa25.keep c17 (fun g h1 h2 h3 => by omega)
 replace hsb25 := hsb25.keep c17 (fun g h1 h2 h3 => by omega)
 replace hsc25 := hsc25.keep c17 (fun g h1 h2 h3 => by omega)
 replace hsd25 := hsd25.keep c17 (fun g h1 h2 h3 => by omega)
 replace hb6 := hb6.keep c17 (fun h => by omega)
 refine Rg_storeW (v := .agg _) rfl Tryz.sizeOf27 rfl rfl hb6 rfl rfl rfl ?_
 intro w19 c20 hb6
 change Box _ _ _ (wsS _ _ _) at hb6
 have z21 := Bel.size c20
 replace hX := Bel.out hX c20 (fun g h1 h2 => by first | exact h2 | omega)
 replace hc0 := hc0.keep c20 (fun g h1 h2 h3 => by omega)
 replace hb3 := hb3.keep c20 (fun h => by omega)
 replace hsa25 := hsa25.keep c20 (fun g h1 h2 h3 => by omega)
 replace hsb25 := hsb25.keep c20 (fun g h1 h2 h3 => by omega)
 replace hsc25 := hsc25.keep c20 (fun g h1 h2 h3 => by omega)
 replace hsd25 := hsd25.keep c20 (fun g h1 h2 h3 => by omega)
 replace hb5 := hb5.keep c20 (fun h => by omega)
 refine Rr (asS rfl) ?_
 refine Rr (asS rfl) ?_
 refine Rr (asB rfl) ?_
 refine Rg_nil (W_seq (W_region ?_))
 refine Rr (o_fa Tryz.underlying44 rfl Tryz.sizeOf42 rfl) ?_
 refine Rr (o_load1 Tryz.isAgg42 rfl (hb3.at.get 2 rfl)) ?_
 obtain ⟨n4, hn4⟩ : ∃ n, n = w19.heap.size := ⟨_, rfl⟩
 refine Rg_enter rfl (o_call1 Tryz.call14 rfl) (Ok.mono (blclone_ok _ _ ch hc0.trd hcl) ?_)
 rintro v33 w22 ⟨hown33, x23⟩
 have z24 := x23.size
 replace hX := hX.ex x23
 replace hb3 := hb3.ext x23
 replace hsa25 := hsa25.ext x23
 replace hsb25 := hsb25.ext x23
 replace hsc25 := hsc25.ext x23
 replace hsd25 := hsd25.ext x23
 replace hb5 := hb5.ext x23
 replace hb6 := hb6.ext x23
 refine Rr (o_assignh (v := v33) rfl) ?_
 refine Rg_nil (W_seq (W_seq (W_region ?_)))
 refine Rr (o_fa Tryz.underlying44 rfl Tryz.sizeOf4 rfl) ?_
 refine Rr (o_load1 Tryz.isAgg4 rfl (hb3.at.get 3 rfl)) ?_
 refine Rg_nil ?_
 refine W_cond rfl (fun hc2 => ?_) (fun hc2 => ?_)
 ·have hft : fit = true := hc2
  refine W_seq (W_region ?_)
  refine Rr (mvS rfl) ?_
  refine Rr (mvS rfl) ?_
  refine Rg_enter rfl (o_call2 Tryz.call9 rfl rfl) (Ok.mono (rsets_ok a325 a425 c325 c425 _ _ X Y _ hsc25 hsd25 (by omega) (by omega) hX0 hY0) ?_)
  rintro _ w25 ⟨⟨u39, z39, rfl, hown39, hownz39, hne39⟩, x26⟩
  have z27 := x26.size
  replace hX := hX.ex x26
  replace hsa25 := hsa25.ext x26
  replace hsb25 := hsb25.ext x26
  replace hsc25 := hsc25.ext x26
  replace hsd25 := hsd25.ext x26
  replace hb5 := hb5.ext x26
  replace hb6 := hb6.ext x26
  replace hown33 := hown33.ext x26
  refine Rr (o_moveh (v := .tuple _) rfl) ?_
  have hbl := bad_len X Y
  have hNl : (cflO X Y).length = (badK X Y).length := List.length_map ..
  obtain ⟨a39q, c39q, hv39q, hs39q⟩ := hownz39.sl encRc_ok
  subst hv39q
  refine Rr (o_extract rfl rfl) ?_
  refine Rr (o_extract rfl rfl) ?_
  refine Rr (o_assignh (v := u39) rfl) ?_
  refine Rr (asS rfl) ?_
  refine Rg_nil (W_seq (W_block ?_))
  refine W_for (α := Value × List Bool) [(10, 10), (42, 53)] (fun q => [(10, q.1)]) (fun q w' => (True) ∧ Bel False (fun g => n4 ≤ g) w25 w' ∧ (Own encBl 1 4 (fun g => n4 ≤ g) w' q.1 q.2)) (fun q => (cflO X Y).length - q.2.length) (v33, ch) ⟨rfl, trivial⟩ ⟨trivial, Bel.refl _ _, hown33.mono (fun g h1 h2 => by omega)⟩ ?_
  rintro ⟨t, L⟩ fb30 w29 ⟨-, hXL28, hown10⟩
  dsimp only at *
  have z31 := Bel.size hXL28
  replace hX := Bel.out hX hXL28 (fun g h1 h2 => by first | exact h2 | omega)
  replace hsa25 := hsa25.keep hXL28 (fun g h1 h2 h3 => by omega)
  replace hsb25 := hsb25.keep hXL28 (fun g h1 h2 h3 => by omega)
  replace hsc25 := hsc25.keep hXL28 (fun g h1 h2 h3 => by omega)
  replace hsd25 := hsd25.keep hXL28 (fun g h1 h2 h3 => by omega)
  replace hb5 := hb5.keep hXL28 (fun h => by omega)
  replace hb6 := hb6.keep hXL28 (fun h => by omega)
  refine W_seq (W_seq (W_region ?_))
  refine Rr (o_moveh (v := t) rfl) ?_
  refine Rr (o_llenO Tryz.underlying42 rfl hown10) ?_
  refine Rr (mvS rfl) ?_
  refine Rr (o_llen Tryz.underlying34 rfl) ?_
  refine Rr (o_lss rfl rfl) ?_
  refine Rg_nil ?_
  refine W_cond rfl (fun hc3 => ?_) (fun hc3 => ?_)
  ·have hk1 : L.length < (cflO X Y).length := by have := of_decide_eq_true hc3; omega
   refine W_skip (W_block (W_region ?_))
   refine Rr (o_moveh (v := t) rfl) ?_
   refine Rr (o_moveh (v := t) rfl) ?_
   refine Rr (o_llenO Tryz.underlying42 rfl hown10) ?_
   refine Rr (o_rem rfl rfl (by first | omega | (unfold I64; omega)) (by first | omega | (unfold I64; omega)) (by first | omega | (unfold I64; omega))) ?_
   refine Rr (o_eql rfl rfl) ?_
   refine Rg_bs (vs := [.bool _]) ([(L.length : Int) % 2 == 0]) rfl encBl_ok el_bl rfl rfl ⟨rfl, trivial⟩ rfl rfl rfl rfl ?_
   intro a52 w32 x33 hown52
   have z34 := x33.size
   replace hX := hX.ex x33
   replace hXL28 := Bel.ex hXL28 x33
   replace hown10 := hown10.ext x33
   replace hown52 := hown52.mono (D' := fun g => n4 ≤ g) (fun g h1 h2 => by omega)
   refine Rg_app rfl encBl_ok el_bl rfl rfl hown10 (hown52.slA encBl_ok) rfl (by rw [List.length_singleton]; omega) (fun g h => by omega) ?_
   intro v53 w35 x36 hown10
   have z37 := x36.size
   replace hX := Bel.out hX x36 (fun g h1 h2 => by first | exact h2 | omega)
   replace hXL28 := Bel.out hXL28 x36 (fun g h1 h2 => by first | exact h2 | omega)
   refine Rr (o_assignh (v := v53) rfl) ?_
   refine Rg_nil ?_
   refine ⟨(v53, L ++ [(L.length : Int) % 2 == 0]), ⟨?_, trivial⟩, ?_, ⟨?_, hXL28, ?_⟩, ?_⟩
   ·first | rfl | (go_num) | (exact congrArg _ (by omega))
   ·repeat (first | exact oR _ _ | exact oM | refine oP rfl ?_ | refine oN ?_ | refine oL rfl ?_ | refine oX rfl ?_)
   ·trivial
   ·exact hown10.mono (fun g h1 h2 => by omega)
   ·show (cflO X Y).length - (L ++ [_]).length < (cflO X Y).length - L.length; rw [List.length_append, List.length_singleton]; omega
  have hk1 : ¬ L.length < (cflO X Y).length := by have := of_decide_eq_false hc3; omega
  refine W_exit (exAt_hit (W_region ?_))
  obtain ⟨a10q, c10q, hv10q, hs10q⟩ := hown10.sl encBl_ok
  subst hv10q
  have hs10t := hs10q.take (cflO X Y).length
  have hlq := hs10q.le
  have htl : (L.take (cflO X Y).length).length = (cflO X Y).length := by rw [List.length_take, Nat.min_eq_left (by omega)]
  refine Rr (mvS rfl) ?_
  refine Rr (mvS rfl) ?_
  refine Rr (o_llen Tryz.underlying34 rfl) ?_
  refine Rr (o_slto Tryz.underlying42 Tryz.sizeOf4 rfl rfl (by first | omega | (unfold I64; omega))) ?_
  refine Rr (asS rfl) ?_
  refine Rg_nil (W_seq (W_region ?_))
  refine Rr (o_loadS Tryz.isAgg27 Tryz.sizeOf27 rfl hb5.at rfl) ?_
  refine Rr (o_loadS Tryz.isAgg27 Tryz.sizeOf27 rfl hb6.at rfl) ?_
  refine Rr (mvS rfl) ?_
  refine Rg_enter rfl (o_call3 Tryz.call15 rfl rfl rfl) (Ok.mono (mres_ok a25 b25 c25 d25 _ _ X Y _ hsa25 hsb25 hX0 hY0 (by omega) (by omega) _ (L.take (cflO X Y).length) ⟨_, _, by rw [htl]; rfl, hs10t.top⟩) ?_)
  rintro _ w38 ⟨⟨a62, c62, rfl, hs62⟩, x39⟩
  have z40 := x39.size
  replace hX := hX.ex x39
  replace hsc25 := hsc25.ext x39
  replace hsd25 := hsd25.ext x39
  replace hs10t := hs10t.ext x39
  refine Rr (o_moveh (v := .tuple _) rfl) ?_
  refine Rr (o_extract rfl rfl) ?_
  refine Rr (o_extract rfl rfl) ?_
  refine Rg_alst rfl rfl Tryz.zeroValue27 rfl Tryz.sizeOf27 (fun _ => rfl) rfl rfl ?_
  intro b13 w41 x42 hge13 hb13
  have hlt13 := hb13.lt
  change Box _ _ _ (wsS _ _ _) at hb13
  have z43 := x42.size
  replace hX := hX.ex x42
  replace hsc25 := hsc25.ext x42
  replace hsd25 := hsd25.ext x42
  replace hs10t := hs10t.ext x42
  replace hs62 := hs62.ext x42
  refine Rr (asI rfl) ?_
  refine Rg_nil (W_seq (W_region ?_))
  refine Rr (mvS rfl) ?_
  refine Rr (mvS rfl) ?_
  refine Rr (mvS rfl) ?_
  refine Rg_enter rfl (o_call3 Tryz.call16 rfl rfl rfl) (Ok.mono (rres_ok a325 a425 c325 c425 _ _ X Y _ hsc25 hsd25 (by omega) (by omega) hX0 hY0 _ (L.take (cflO X Y).length) ⟨_, _, by rw [htl]; rfl, hs10t.top⟩) ?_)
  rintro _ w44 ⟨⟨u69, rfl, hown69⟩, x45⟩
  have z46 := x45.size
  replace hX := hX.ex x45
  replace hs62 := hs62.ext x45
  replace hb13 := hb13.ext x45
  refine Rr (o_moveh (v := .tuple _) rfl) ?_
  refine Rr (o_extract rfl rfl) ?_
  refine Rr (o_extract rfl rfl) ?_
  refine Rr (o_assignh (v := u69) rfl) ?_
  refine Rr (asI rfl) ?_
  refine Rg_nil (W_seq (W_region ?_))
  refine (Decidable.em (resolveO X Y (L.take (cflO X Y).length) = ([], 1))).elim (fun hbad => ?_) (fun hbad => ?_)
  ·skip
   refine Rr (mvB rfl) ?_
   refine Rr (mvB rfl) ?_
   refine Rg_on 1 73 rfl rfl ?_
   refine Rr (mvI rfl) ?_
   refine Rg_on 1 73 rfl rfl ?_
   refine Rr (mvI rfl) ?_
   refine Rg_on 1 73 rfl rfl ?_
   refine Rr (o_eql rfl rfl) ?_
   refine Rr (o_pickT (v := .bool _) rfl rfl) ?_
   refine Rr (mvB rfl) ?_
   refine Rg_on 6 78 rfl (congrArg Value.bool (beq_self_eq_true _)) ?_
   refine Rr (mvI rfl) ?_
   refine Rg_on 6 78 rfl (congrArg Value.bool (beq_self_eq_true _)) ?_
   refine Rr (o_neq rfl rfl) ?_
   refine Rg_on 6 78 rfl (congrArg Value.bool (beq_self_eq_true _)) ?_
   refine Rr (mvB rfl) ?_
   refine Rg_on 9 81 rfl (congrArg Value.bool (by rw [hbad] <;> rfl)) ?_
   refine Rr (o_loadS Tryz.isAgg27 Tryz.sizeOf27 rfl hb13.at rfl) ?_
   refine Rg_on 9 81 rfl (congrArg Value.bool (by rw [hbad] <;> rfl)) ?_
   refine Rg_enter rfl (o_call1 Tryz.call17 rfl) (Ok.mono (cempty_ok a62 c62 _ (resolveO X Y (L.take (cflO X Y).length)).1 _ hs62) ?_)
   rintro _ w47 ⟨rfl, x48⟩
   have z49 := x48.size
   replace hX := hX.ex x48
   refine Rg_on 6 78 rfl (congrArg Value.bool (beq_self_eq_true _)) ?_
   refine Rr (o_pickT (v := .bool _) (congrArg Value.bool (by rw [hbad] <;> rfl)) rfl) ?_
   refine Rg_on 6 78 rfl (congrArg Value.bool (beq_self_eq_true _)) ?_
   refine Rr (mvB rfl) ?_
   refine Rg_off 13 85 rfl rfl (congrArg Value.bool (by rw [hbad] <;> rfl)) rfl rfl ?_
   refine Rg_off 13 85 rfl rfl (congrArg Value.bool (by rw [hbad] <;> rfl)) rfl rfl ?_
   refine Rg_off 13 85 rfl rfl (congrArg Value.bool (by rw [hbad] <;> rfl)) rfl rfl ?_
   refine Rg_offU 16 88 rfl rfl rfl rfl ?_
   refine Rg_offU 16 88 rfl rfl rfl rfl ?_
   refine Rg_offU 16 88 rfl rfl rfl rfl ?_
   refine Rg_off 13 85 rfl rfl (congrArg Value.bool (by rw [hbad] <;> rfl)) rfl rfl ?_
   refine Rg_on 6 78 rfl (congrArg Value.bool (beq_self_eq_true _)) ?_
   refine Rr (o_pickT (v := .bool _) (congrArg Value.bool (by rw [hbad] <;> rfl)) rfl) ?_
   refine Rr (o_pickT (v := .bool _) (congrArg Value.bool (beq_self_eq_true _)) rfl) ?_
   refine Rr (asB rfl) ?_
   refine Rg_nil (W_ret ?_)
   refine ⟨_, res_tmp rfl rfl, ?_⟩
   refine ⟨congrArg Value.bool ?_, hX⟩
   all_goals (rfl)
  obtain ⟨hr2, hkk⟩ := (res_two hX0 hY0 hXl hYl (L.take (cflO X Y).length)).resolve_left hbad
  refine Rr (mvB rfl) ?_
  refine Rr (mvB rfl) ?_
  refine Rg_on 1 73 rfl rfl ?_
  refine Rr (mvI rfl) ?_
  refine Rg_on 1 73 rfl rfl ?_
  refine Rr (mvI rfl) ?_
  refine Rg_on 1 73 rfl rfl ?_
  refine Rr (o_eql rfl rfl) ?_
  refine Rr (o_pickT (v := .bool _) rfl rfl) ?_
  refine Rr (mvB rfl) ?_
  refine Rg_on 6 78 rfl (congrArg Value.bool (beq_self_eq_true _)) ?_
  refine Rr (mvI rfl) ?_
  refine Rg_on 6 78 rfl (congrArg Value.bool (beq_self_eq_true _)) ?_
  refine Rr (o_neq rfl rfl) ?_
  refine Rg_on 6 78 rfl (congrArg Value.bool (beq_self_eq_true _)) ?_
  refine Rr (mvB rfl) ?_
  refine Rg_off 9 81 rfl rfl (congrArg Value.bool (by rw [hr2] <;> rfl)) rfl rfl ?_
  refine Rg_off 9 81 rfl rfl (congrArg Value.bool (by rw [hr2] <;> rfl)) rfl rfl ?_
  refine Rg_on 6 78 rfl (congrArg Value.bool (beq_self_eq_true _)) ?_
  refine Rr (o_pickF (v := .bool _) (congrArg Value.bool (by rw [hr2] <;> rfl)) rfl) ?_
  refine Rg_on 6 78 rfl (congrArg Value.bool (beq_self_eq_true _)) ?_
  refine Rr (mvB rfl) ?_
  refine Rg_on 13 85 rfl rfl ?_
  refine Rr (mvI rfl) ?_
  refine Rg_on 13 85 rfl rfl ?_
  refine Rr (o_eql rfl rfl) ?_
  refine Rg_on 13 85 rfl rfl ?_
  refine Rr (mvB rfl) ?_
  refine Rg_on 16 88 rfl (congrArg Value.bool (by rw [hr2] <;> rfl)) ?_
  refine Rr (o_loadS Tryz.isAgg27 Tryz.sizeOf27 rfl hb13.at rfl) ?_
  refine Rg_on 16 88 rfl (congrArg Value.bool (by rw [hr2] <;> rfl)) ?_
  refine Rr (o_moveh (v := u69) rfl) ?_
  refine Rg_on 16 88 rfl (congrArg Value.bool (by rw [hr2] <;> rfl)) ?_
  refine Rg_enter rfl (o_call2 Tryz.call10 rfl rfl) (Ok.mono (lsame_ok a62 c62 _ (resolveO X Y (L.take (cflO X Y).length)).1 _ hs62 u69 (resolveO X Y (L.take (cflO X Y).length)).1 (hown69.trd encRo_ok) (res_two_len hX0 hY0 hXl hYl _) (res_two_len hX0 hY0 hXl hYl _) hkk) ?_)
  rintro _ w50 ⟨rfl, x51⟩
  have z52 := x51.size
  replace hX := hX.ex x51
  refine Rg_on 13 85 rfl rfl ?_
  refine Rr (o_pickT (v := .bool _) (congrArg Value.bool (by rw [hr2] <;> rfl)) rfl) ?_
  refine Rg_on 6 78 rfl (congrArg Value.bool (beq_self_eq_true _)) ?_
  refine Rr (o_pickF (v := .bool _) rfl rfl) ?_
  refine Rr (o_pickT (v := .bool _) (congrArg Value.bool (beq_self_eq_true _)) rfl) ?_
  refine Rr (asB rfl) ?_
  refine Rg_nil (W_ret ?_)
  refine ⟨_, res_tmp rfl rfl, ?_⟩
  refine ⟨congrArg Value.bool ?_, hX⟩
  all_goals (exact beq_self_eq_true _)
 have hft : fit = false := hc2
 refine W_skip (W_seq (W_region ?_))
 refine Rr (o_loadS Tryz.isAgg27 Tryz.sizeOf27 rfl hb5.at rfl) ?_
 refine Rr (o_loadS Tryz.isAgg27 Tryz.sizeOf27 rfl hb6.at rfl) ?_
 refine Rr (o_moveh (v := v33) rfl) ?_
 refine Rg_enter rfl (o_call3 Tryz.call15 rfl rfl rfl) (Ok.mono (mres_ok a25 b25 c25 d25 _ _ X Y _ hsa25 hsb25 hX0 hY0 (by omega) (by omega) _ ch (hown33.trd encBl_ok)) ?_)
 rintro _ w53 ⟨⟨a62, c62, rfl, hs62⟩, x54⟩
 replace hown33 := hown33.mono (D' := fun g => n4 ≤ g ∧ ¬ (w22.heap.size ≤ g ∧ g < w53.heap.size)) (fun g h1 h2 => by omega)
 have z55 := x54.size
 replace hX := hX.ex x54
 replace hsc25 := hsc25.ext x54
 replace hsd25 := hsd25.ext x54
 replace hown33 := hown33.ext x54
 refine Rr (o_moveh (v := .tuple _) rfl) ?_
 refine Rr (o_extract rfl rfl) ?_
 refine Rr (o_extract rfl rfl) ?_
 refine Rg_alst rfl rfl Tryz.zeroValue27 rfl Tryz.sizeOf27 (fun _ => rfl) rfl rfl ?_
 intro b13 w56 x57 hge13 hb13
 replace hown33 := hown33.mono (D' := fun g => n4 ≤ g ∧ ¬ (w22.heap.size ≤ g ∧ g < w53.heap.size) ∧ g ≠ b13) (fun g h1 h2 => by omega)
 have hlt13 := hb13.lt
 change Box _ _ _ (wsS _ _ _) at hb13
 have z58 := x57.size
 replace hX := hX.ex x57
 replace hsc25 := hsc25.ext x57
 replace hsd25 := hsd25.ext x57
 replace hown33 := hown33.ext x57
 replace hs62 := hs62.ext x57
 refine Rr (asI rfl) ?_
 refine Rg_nil (W_seq (W_region ?_))
 refine Rr (mvS rfl) ?_
 refine Rr (mvS rfl) ?_
 refine Rr (o_moveh (v := v33) rfl) ?_
 refine Rg_enter rfl (o_call3 Tryz.call16 rfl rfl rfl) (Ok.mono (rres_ok a325 a425 c325 c425 _ _ X Y _ hsc25 hsd25 (by omega) (by omega) hX0 hY0 _ ch (hown33.trd encBl_ok)) ?_)
 rintro _ w59 ⟨⟨u69, rfl, hown69⟩, x60⟩
 have z61 := x60.size
 replace hX := hX.ex x60
 replace hs62 := hs62.ext x60
 replace hb13 := hb13.ext x60
 refine Rr (o_moveh (v := .tuple _) rfl) ?_
 refine Rr (o_extract rfl rfl) ?_
 refine Rr (o_extract rfl rfl) ?_
 refine Rr (o_assignh (v := u69) rfl) ?_
 refine Rr (asI rfl) ?_
 refine Rg_nil (W_seq (W_region ?_))
 refine (Decidable.em (resolveO X Y ch = ([], 1))).elim (fun hbad => ?_) (fun hbad => ?_)
 ·skip
  refine Rr (mvB rfl) ?_
  refine Rr (mvB rfl) ?_
  refine Rg_on 1 73 rfl rfl ?_
  refine Rr (mvI rfl) ?_
  refine Rg_on 1 73 rfl rfl ?_
  refine Rr (mvI rfl) ?_
  refine Rg_on 1 73 rfl rfl ?_
  refine Rr (o_eql rfl rfl) ?_
  refine Rr (o_pickT (v := .bool _) rfl rfl) ?_
  refine Rr (mvB rfl) ?_
  refine Rg_on 6 78 rfl (congrArg Value.bool (beq_self_eq_true _)) ?_
  refine Rr (mvI rfl) ?_
  refine Rg_on 6 78 rfl (congrArg Value.bool (beq_self_eq_true _)) ?_
  refine Rr (o_neq rfl rfl) ?_
  refine Rg_on 6 78 rfl (congrArg Value.bool (beq_self_eq_true _)) ?_
  refine Rr (mvB rfl) ?_
  refine Rg_on 9 81 rfl (congrArg Value.bool (by rw [hbad] <;> rfl)) ?_
  refine Rr (o_loadS Tryz.isAgg27 Tryz.sizeOf27 rfl hb13.at rfl) ?_
  refine Rg_on 9 81 rfl (congrArg Value.bool (by rw [hbad] <;> rfl)) ?_
  refine Rg_enter rfl (o_call1 Tryz.call17 rfl) (Ok.mono (cempty_ok a62 c62 _ (resolveO X Y ch).1 _ hs62) ?_)
  rintro _ w62 ⟨rfl, x63⟩
  have z64 := x63.size
  replace hX := hX.ex x63
  refine Rg_on 6 78 rfl (congrArg Value.bool (beq_self_eq_true _)) ?_
  refine Rr (o_pickT (v := .bool _) (congrArg Value.bool (by rw [hbad] <;> rfl)) rfl) ?_
  refine Rg_on 6 78 rfl (congrArg Value.bool (beq_self_eq_true _)) ?_
  refine Rr (mvB rfl) ?_
  refine Rg_off 13 85 rfl rfl (congrArg Value.bool (by rw [hbad] <;> rfl)) rfl rfl ?_
  refine Rg_off 13 85 rfl rfl (congrArg Value.bool (by rw [hbad] <;> rfl)) rfl rfl ?_
  refine Rg_off 13 85 rfl rfl (congrArg Value.bool (by rw [hbad] <;> rfl)) rfl rfl ?_
  refine Rg_offU 16 88 rfl rfl rfl rfl ?_
  refine Rg_offU 16 88 rfl rfl rfl rfl ?_
  refine Rg_offU 16 88 rfl rfl rfl rfl ?_
  refine Rg_off 13 85 rfl rfl (congrArg Value.bool (by rw [hbad] <;> rfl)) rfl rfl ?_
  refine Rg_on 6 78 rfl (congrArg Value.bool (beq_self_eq_true _)) ?_
  refine Rr (o_pickT (v := .bool _) (congrArg Value.bool (by rw [hbad] <;> rfl)) rfl) ?_
  refine Rr (o_pickT (v := .bool _) (congrArg Value.bool (beq_self_eq_true _)) rfl) ?_
  refine Rr (asB rfl) ?_
  refine Rg_nil (W_ret ?_)
  refine ⟨_, res_tmp rfl rfl, ?_⟩
  refine ⟨congrArg Value.bool ?_, hX⟩
  all_goals (rfl)
 obtain ⟨hr2, hkk⟩ := (res_two hX0 hY0 hXl hYl ch).resolve_left hbad
 refine Rr (mvB rfl) ?_
 refine Rr (mvB rfl) ?_
 refine Rg_on 1 73 rfl rfl ?_
 refine Rr (mvI rfl) ?_
 refine Rg_on 1 73 rfl rfl ?_
 refine Rr (mvI rfl) ?_
 refine Rg_on 1 73 rfl rfl ?_
 refine Rr (o_eql rfl rfl) ?_
 refine Rr (o_pickT (v := .bool _) rfl rfl) ?_
 refine Rr (mvB rfl) ?_
 refine Rg_on 6 78 rfl (congrArg Value.bool (beq_self_eq_true _)) ?_
 refine Rr (mvI rfl) ?_
 refine Rg_on 6 78 rfl (congrArg Value.bool (beq_self_eq_true _)) ?_
 refine Rr (o_neq rfl rfl) ?_
 refine Rg_on 6 78 rfl (congrArg Value.bool (beq_self_eq_true _)) ?_
 refine Rr (mvB rfl) ?_
 refine Rg_off 9 81 rfl rfl (congrArg Value.bool (by rw [hr2] <;> rfl)) rfl rfl ?_
 refine Rg_off 9 81 rfl rfl (congrArg Value.bool (by rw [hr2] <;> rfl)) rfl rfl ?_
 refine Rg_on 6 78 rfl (congrArg Value.bool (beq_self_eq_true _)) ?_
 refine Rr (o_pickF (v := .bool _) (congrArg Value.bool (by rw [hr2] <;> rfl)) rfl) ?_
 refine Rg_on 6 78 rfl (congrArg Value.bool (beq_self_eq_true _)) ?_
 refine Rr (mvB rfl) ?_
 refine Rg_on 13 85 rfl rfl ?_
 refine Rr (mvI rfl) ?_
 refine Rg_on 13 85 rfl rfl ?_
 refine Rr (o_eql rfl rfl) ?_
 refine Rg_on 13 85 rfl rfl ?_
 refine Rr (mvB rfl) ?_
 refine Rg_on 16 88 rfl (congrArg Value.bool (by rw [hr2] <;> rfl)) ?_
 refine Rr (o_loadS Tryz.isAgg27 Tryz.sizeOf27 rfl hb13.at rfl) ?_
 refine Rg_on 16 88 rfl (congrArg Value.bool (by rw [hr2] <;> rfl)) ?_
 refine Rr (o_moveh (v := u69) rfl) ?_
 refine Rg_on 16 88 rfl (congrArg Value.bool (by rw [hr2] <;> rfl)) ?_
 refine Rg_enter rfl (o_call2 Tryz.call10 rfl rfl) (Ok.mono (lsame_ok a62 c62 _ (resolveO X Y ch).1 _ hs62 u69 (resolveO X Y ch).1 (hown69.trd encRo_ok) (res_two_len hX0 hY0 hXl hYl _) (res_two_len hX0 hY0 hXl hYl _) hkk) ?_)
 rintro _ w65 ⟨rfl, x66⟩
 have z67 := x66.size
 replace hX := hX.ex x66
 refine Rg_on 13 85 rfl rfl ?_
 refine Rr (o_pickT (v := .bool _) (congrArg Value.bool (by rw [hr2] <;> rfl)) rfl) ?_
 refine Rg_on 6 78 rfl (congrArg Value.bool (beq_self_eq_true _)) ?_
 refine Rr (o_pickF (v := .bool _) rfl rfl) ?_
 refine Rr (o_pickT (v := .bool _) (congrArg Value.bool (beq_self_eq_true _)) rfl) ?_
 refine Rr (asB rfl) ?_
 refine Rg_nil (W_ret ?_)
 refine ⟨_, res_tmp rfl rfl, ?_⟩
 refine ⟨congrArg Value.bool ?_, hX⟩
 all_goals (exact beq_self_eq_true _)

end Go.Proofs.YtecjjgljkepajaaGreatDoor
