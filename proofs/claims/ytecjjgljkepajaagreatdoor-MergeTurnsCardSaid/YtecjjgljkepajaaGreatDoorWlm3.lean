/- Walks, printed by program: each theorem says what a function of the translation returns. -/
import Derived.Test.YtecjjgljkepajaaGreatDoorWl51
import Derived.Test.YtecjjgljkepajaaGreatDoorKo
namespace Go.Proofs.YtecjjgljkepajaaGreatDoor
open Go Go.Lx Go.RowKit
set_option maxRecDepth 100000
set_option linter.unusedVariables false
set_option linter.unusedSimpArgs false
set_option linter.unnecessarySimpa false
theorem any_beq {l : List COp} {o : COp} (h : o ∈ l) : (l.any fun y => o == y) = true := List.any_eq_true.2 ⟨o, h, beq_self_eq_true o⟩
theorem coindex_ok (a : Option Addr) (c : Nat) (G : Nat → Prop) (l : List COp) (x : COp) (w : World) (hs : Sl encCo 8 G w a c l) : Ok Tryz.prog 42 #[.slice a l.length c, .agg (encCo x).toArray] w fun v w' => v = .int .i64 (ixOf (fun y => x == y) l) ∧ Ext False w w' := by
 have hlen := hs.len
 replace hs := hs.mono (F' := fun g => g < w.heap.size) (fun g h1 h2 => h1)
 refine Ok_of_W 19 Tryz.func42 rfl rfl rfl ?_
 have hX : Ext False w w := Bel.refl _ _
 refine W_seq (W_region ?_)
 refine Rg_newB rfl (o_box (v := .agg _) rfl) ?_
 intro b3 w1 x2 hge3 hb3
 change Box _ _ _ (encCo _) at hb3
 replace hX := hX.ex x2
 replace hs := hs.ext x2
 refine Rr o_assignc ?_
 refine Rg_nil (W_seq (W_seq (W_region ?_)))
 refine Rr (mvS rfl) ?_
 refine Rr (o_llen Tryz.underlying25 rfl) ?_
 refine Rr o_movec ?_
 refine Rg_nil (W_block ?_)
 refine W_for (α := Nat) [(4, 5), (8, 18)] (fun k => [(8, .int .i64 (k : Int))]) (fun k w' => (k ≤ l.length ∧ (l.take k).any (fun y => x == y) = false) ∧ Ext False w1 w') (fun k => l.length - k) 0 ⟨rfl, trivial⟩ ⟨⟨by omega, by simp⟩, Bel.refl _ _⟩ ?_
 rintro k fb5 w4 ⟨⟨hk, hall⟩, hXL3⟩
 replace hX := hX.ex hXL3
 replace hs := hs.ext hXL3
 replace hb3 := hb3.ext hXL3
 refine W_seq (W_region ?_)
 refine Rr (o_lss rfl rfl) ?_
 refine Rg_nil (W_seq ?_)
 refine W_cond rfl (fun hc1 => ?_) (fun hc1 => ?_)
 ·replace hc1 := of_decide_eq_true hc1
  refine W_skip (W_seq (W_block (W_seq (W_region ?_))))
  refine Rr (mvI rfl) ?_
  refine Rr (asI rfl) ?_
  refine Rg_nil (W_seq ?_)
  apply W_draw (β := False) [peq _, peq _, peq _, peq _, peq _, peq _] 6 mixed (by kernel_rfl) rfl ⟨peq_stable _, peq_stable _, peq_stable _, peq_stable _, peq_stable _, peq_stable _, trivial⟩ ?ob4 ?fin4
  case ob4 =>
   refine OblL_cons (fun w6 x7 => ?_) ?_
   ·have hb3 := hb3.ext x7
    refine bindP_nil ?_
    exact OpS_v rfl (o_loadS Tryz.isAgg59 Tryz.sizeOf59 rfl hb3.at rfl)
   refine OblL_cons (fun w8 x9 => ?_) ?_
   ·refine bindP_nil ?_
    exact OpS_v rfl (mvS rfl)
   refine OblL_cons (fun w10 x11 => ?_) ?_
   ·refine bindP_nil ?_
    exact OpS_v rfl (mvI rfl)
   refine OblL_cons (fun w12 x13 => ?_) ?_
   ·have hs := hs.ext x13
    refine bindP_eq (bindP_eq (bindP_nil ?_))
    exact OpS_v rfl (o_iaR Tryz.underlying25 Tryz.sizeOf59 hs rfl rfl (by first | omega | (unfold I64; omega) | (simp; done) | (simp; omega) | (simp at *; omega)))
   refine OblL_cons (fun w14 x15 => ?_) ?_
   ·have hs := hs.ext x15
    refine bindP_eq (bindP_nil ?_)
    exact OpS_v rfl (o_ldRS Tryz.isAgg59 Tryz.sizeOf59 hs rfl (getE coz (by omega)))
   refine OblL_cons (fun w16 x17 => ?_) ?_
   ·refine bindP_eq (bindP_eq (bindP_nil ?_))
    exact OpS_v rfl (o_teql eq_co rfl rfl)
   exact OblL_nil
  case fin4 =>
   intro w18 x19
   replace hX := hX.ex x19
   replace hXL3 := Bel.ex hXL3 x19
   refine bindP_eq (bindP_eq (bindP_eq (bindP_eq (bindP_eq (bindP_eq (bindP_nil (Rg_nil ?_)))))))
   refine W_cond rfl (fun hc2 => ?_) (fun hc2 => ?_)
   ·refine W_seq (W_region ?_)
    refine Rr (mvI rfl) ?_
    refine Rr (asI rfl) ?_
    refine Rg_nil (W_ret ?_)
    refine ⟨_, res_tmp rfl rfl, ?_⟩
    refine ⟨congrArg (Value.int .i64) ?_, hX⟩
    all_goals (exact (ixOf_at (by omega) hall (by simpa [List.getD, show k < l.length by omega] using hc2)).symm)
   refine W_skip (W_region ?_)
   refine Rr (o_add rfl rfl (by first | omega | (unfold I64; omega) | (simp; done) | (simp; omega) | (simp at *; omega))) ?_
   refine Rr (mvI rfl) ?_
   refine Rg_nil ?_
   refine ⟨k + 1, ⟨?_, trivial⟩, ?_, ⟨?_, hXL3⟩, ?_⟩
   ·first | rfl | (go_num) | (exact congrArg _ (by omega))
   ·repeat (first | exact oR _ _ | exact oM | refine oP rfl ?_ | refine oN ?_ | refine oL rfl ?_ | refine oX rfl ?_)
   ·exact ⟨by omega, anyT_succ (by omega) hall (by simpa [List.getD, show k < l.length by omega] using hc2)⟩
   ·omega
 replace hc1 := of_decide_eq_false hc1
 refine W_exit (exAt_hit (W_seq (W_region ?_)))
 refine Rr o_assignc ?_
 refine Rg_nil (W_ret ?_)
 refine ⟨_, res_tmp rfl rfl, ?_⟩
 refine ⟨congrArg (Value.int .i64) ?_, hX⟩
 all_goals (exact (ixOf_none (k := k) (by omega) hall).symm)

theorem cocont_ok (a : Option Addr) (c : Nat) (G : Nat → Prop) (l : List COp) (x : COp) (w : World) (hs : Sl encCo 8 G w a c l) : Ok Tryz.prog 21 #[.slice a l.length c, .agg (encCo x).toArray] w fun v w' => v = .bool (l.any fun y => x == y) ∧ Ext False w w' := by
 replace hs := hs.mono (F' := fun g => g < w.heap.size) (fun g h1 h2 => h1)
 refine Ok_of_W 9 Tryz.func21 rfl rfl rfl ?_
 have hX : Ext False w w := Bel.refl _ _
 refine W_seq (W_region ?_)
 refine Rg_newB rfl (o_box (v := .agg _) rfl) ?_
 intro b3 w1 x2 hge3 hb3
 change Box _ _ _ (encCo _) at hb3
 replace hX := hX.ex x2
 replace hs := hs.ext x2
 refine Rr o_assignc ?_
 refine Rg_nil (W_seq (W_region ?_))
 refine Rr (mvS rfl) ?_
 refine Rr (o_loadS Tryz.isAgg59 Tryz.sizeOf59 rfl hb3.at rfl) ?_
 refine Rg_enter rfl (o_call2 Tryz.call42 rfl rfl) (Ok.mono (coindex_ok _ _ _ _ _ _ hs) ?_)
 rintro _ w3 ⟨rfl, x4⟩
 replace hX := hX.ex x4
 refine Rr (o_geq rfl rfl) ?_
 refine Rr (asB rfl) ?_
 refine Rg_nil (W_ret ?_)
 refine ⟨_, res_tmp rfl rfl, ?_⟩
 refine ⟨congrArg Value.bool ?_, hX⟩
 all_goals (exact ixOf_ge _ _)

set_option maxHeartbeats 4000000 in
theorem law_MergeTurns (w : World) (v0 : Value) (p : List UInt8) (hp0 : Rd encB 1 (Lt w.heap.size) w v0 p) (v1 : Value) (l : List RawC) (hl0 : Rd encRaw 6 (Lt w.heap.size) w v1 l) (v2 : Value) (m : List RawC) (hm0 : Rd encRaw 6 (Lt w.heap.size) w v2 m) : Ok Tryz.prog 5 #[v0, v1, v2] w fun v w' => v = .bool true ∧ Ext False w w' := by
 obtain ⟨ap, cpp, rfl, hp0⟩ := hp0; obtain ⟨ar, cr, rfl, hl0⟩ := hl0; obtain ⟨am, cm, rfl, hm0⟩ := hm0
 have hlp := hp0.len; have hll := hl0.len; have hlm := hm0.len
 replace hp0 := hp0.mono (F' := fun g => g < w.heap.size) (fun g h1 h2 => h1)
 replace hl0 := hl0.mono (F' := fun g => g < w.heap.size) (fun g h1 h2 => h1)
 replace hm0 := hm0.mono (F' := fun g => g < w.heap.size) (fun g h1 h2 => h1)
 refine Ok_of_W 200 Tryz.func5 rfl rfl rfl ?_
 have hX : Ext False w w := Bel.refl _ _
 refine W_seq (W_region ?_)
 refine Rr o_assignc ?_
 refine Rg_nil (W_seq (W_seq (W_region ?_)))
 refine Rg_enter rfl (o_call0 Tryz.call6) (Ok.mono (awake51_ok _) ?_)
 rintro _ w1 ⟨rfl, x2⟩
 have z3 := x2.size
 replace hX := hX.ex x2
 replace hp0 := hp0.ext x2
 replace hl0 := hl0.ext x2
 replace hm0 := hm0.ext x2
 refine Rr (o_not rfl) ?_
 refine Rg_nil ?_
 refine W_cond_false rfl ?_
 refine W_skip (W_seq (W_region ?_))
 refine Rr (mvS rfl) ?_
 refine Rr (mvS rfl) ?_
 refine Rr (mvS rfl) ?_
 refine Rg_enter rfl (o_call3 Tryz.call7 rfl rfl rfl) (Ok.mono (lsets_ok _ _ p hp0.trd _ l hl0.trd _ m hm0.trd) ?_)
 rintro _ w4 ⟨⟨a33, c33, b33, d33, a333, c333, a433, c433, X, Y, rfl, ⟨hX0, hY0, hXl, hYl⟩, hsa33, hsb33, hsc33, hsd33⟩, x5⟩
 have z6 := x5.size
 replace hX := hX.ex x5
 refine Rr (o_moveh (v := .tuple _) rfl) ?_
 refine Rr (o_extract rfl rfl) ?_
 refine Rr (o_extract rfl rfl) ?_
 refine Rr (o_extract rfl rfl) ?_
 refine Rr (o_extract rfl rfl) ?_
 refine Rr (o_extract rfl rfl) ?_
 refine Rg_newB rfl (o_alloc Tryz.zeroValue27) ?_
 intro b7 w7 x8 hge7 hb7
 have hlt7 := hb7.lt
 change Box _ _ _ ([.slice _ _ _]) at hb7
 have z9 := x8.size
 replace hX := hX.ex x8
 replace hsa33 := hsa33.ext x8
 replace hsb33 := hsb33.ext x8
 refine Rg_newB rfl (o_alloc Tryz.zeroValue27) ?_
 intro b8 w10 x11 hge8 hb8
 have hlt8 := hb8.lt
 change Box _ _ _ ([.slice _ _ _]) at hb8
 have z12 := x11.size
 replace hX := hX.ex x11
 replace hsa33 := hsa33.ext x11
 replace hsb33 := hsb33.ext x11
 replace hb7 := hb7.ext x11
 refine Rg_storeW (v := .agg _) rfl Tryz.sizeOf27 rfl rfl hb7 rfl rfl rfl ?_
 intro w13 c14 hb7
 change Box _ _ _ (wsS _ _ _) at hb7
 have z15 := Bel.size c14
 replace hX := Bel.out hX c14 (fun g h1 h2 => by first | exact h2 | omega)
 replace hsa33 := hsa33.keep c14 (fun g h1 h2 h3 => by omega)
 replace hsb33 := hsb33.keep c14 (fun g h1 h2 h3 => by omega)
 replace hb8 := hb8.keep c14 (fun h => by omega)
 refine Rg_storeW (v := .agg _) rfl Tryz.sizeOf27 rfl rfl hb8 rfl rfl rfl ?_
 intro w16 c17 hb8
 change Box _ _ _ (wsS _ _ _) at hb8
 have z18 := Bel.size c17
 replace hX := Bel.out hX c17 (fun g h1 h2 => by first | exact h2 | omega)
 replace hsa33 := hsa33.keep c17 (fun g h1 h2 h3 => by omega)
 replace hsb33 := hsb33.keep c17 (fun g h1 h2 h3 => by omega)
 replace hb7 := hb7.keep c17 (fun h => by omega)
 refine Rr (asS rfl) ?_
 refine Rr (asS rfl) ?_
 refine Rr (asB rfl) ?_
 refine Rg_nil (W_seq (W_region ?_))
 refine Rr (o_loadS Tryz.isAgg27 Tryz.sizeOf27 rfl hb7.at rfl) ?_
 refine Rr (o_loadS Tryz.isAgg27 Tryz.sizeOf27 rfl hb8.at rfl) ?_
 refine Rg_enter rfl (o_call2 Tryz.call8 rfl rfl) (Ok.mono (msets_ok a33 b33 c33 d33 _ _ X Y _ hsa33 hsb33 hX0 hY0 (by omega) (by omega)) ?_)
 rintro _ w19 ⟨⟨a42, c42, u42, rfl, hs42, hown42⟩, x20⟩
 have z21 := x20.size
 replace hX := hX.ex x20
 replace hsa33 := hsa33.ext x20
 replace hsb33 := hsb33.ext x20
 replace hb7 := hb7.ext x20
 replace hb8 := hb8.ext x20
 refine Rr (o_moveh (v := .tuple _) rfl) ?_
 obtain ⟨a42q, c42q, hv42q, hs42q⟩ := hown42.sl encCc_ok
 subst hv42q
 refine Rr (o_extract rfl rfl) ?_
 refine Rr (o_extract rfl rfl) ?_
 refine Rg_alst rfl rfl Tryz.zeroValue27 rfl Tryz.sizeOf27 (fun _ => rfl) rfl rfl ?_
 intro b12 w22 x23 hge12 hb12
 have hlt12 := hb12.lt
 change Box _ _ _ (wsS _ _ _) at hb12
 have z24 := x23.size
 replace hX := hX.ex x23
 replace hsa33 := hsa33.ext x23
 replace hsb33 := hsb33.ext x23
 replace hb7 := hb7.ext x23
 replace hb8 := hb8.ext x23
 replace hs42 := hs42.ext x23
 replace hs42q := hs42q.ext x23
 refine Rr (asS rfl) ?_
 refine Rg_nil (W_seq (W_region ?_))
 refine Rr (o_loadS Tryz.isAgg27 Tryz.sizeOf27 rfl hb8.at rfl) ?_
 refine Rr (o_loadS Tryz.isAgg27 Tryz.sizeOf27 rfl hb7.at rfl) ?_
 refine Rg_enter rfl (o_call2 Tryz.call8 rfl rfl) (Ok.mono (msets_ok b33 a33 d33 c33 _ _ Y X _ hsb33 hsa33 hY0 hX0 (by omega) (by omega)) ?_)
 rintro _ w25 ⟨⟨a48, c48, u48, rfl, hs48, hown48⟩, x26⟩
 have z27 := x26.size
 replace hX := hX.ex x26
 replace hsa33 := hsa33.ext x26
 replace hsb33 := hsb33.ext x26
 replace hb7 := hb7.ext x26
 replace hb8 := hb8.ext x26
 replace hs42 := hs42.ext x26
 replace hs42q := hs42q.ext x26
 replace hb12 := hb12.ext x26
 refine Rr (o_moveh (v := .tuple _) rfl) ?_
 obtain ⟨a48q, c48q, hv48q, hs48q⟩ := hown48.sl encCc_ok
 subst hv48q
 refine Rr (o_extract rfl rfl) ?_
 refine Rr (o_extract rfl rfl) ?_
 refine Rg_alst rfl rfl Tryz.zeroValue27 rfl Tryz.sizeOf27 (fun _ => rfl) rfl rfl ?_
 intro b14 w28 x29 hge14 hb14
 have hlt14 := hb14.lt
 change Box _ _ _ (wsS _ _ _) at hb14
 have z30 := x29.size
 replace hX := hX.ex x29
 replace hsa33 := hsa33.ext x29
 replace hsb33 := hsb33.ext x29
 replace hb7 := hb7.ext x29
 replace hb8 := hb8.ext x29
 replace hs42 := hs42.ext x29
 replace hs42q := hs42q.ext x29
 replace hb12 := hb12.ext x29
 replace hs48 := hs48.ext x29
 replace hs48q := hs48q.ext x29
 refine Rr (asS rfl) ?_
 refine Rg_nil (W_seq (W_seq ?_))
 apply W_draw (β := False) [peq _, peq _, peq _, peq _, peq _, peq _, peq _, peq _, peq _, peq _, peq _, peq _, peq _, peq _, peq _, peq _, peq _, peq _, peq _, peq _, peq _, peq _, peq _, peq _, peq _, peq _, peq _, peq _, peq _, peq _, peq _, peq _, peq _, peq _] 34 mixed (by kernel_rfl) rfl ⟨peq_stable _, peq_stable _, peq_stable _, peq_stable _, peq_stable _, peq_stable _, peq_stable _, peq_stable _, peq_stable _, peq_stable _, peq_stable _, peq_stable _, peq_stable _, peq_stable _, peq_stable _, peq_stable _, peq_stable _, peq_stable _, peq_stable _, peq_stable _, peq_stable _, peq_stable _, peq_stable _, peq_stable _, peq_stable _, peq_stable _, peq_stable _, peq_stable _, peq_stable _, peq_stable _, peq_stable _, peq_stable _, peq_stable _, peq_stable _, trivial⟩ ?ob6 ?fin6
 case ob6 =>
  refine OblL_cons (fun w31 x32 => ?_) ?_
  ·have z33 := x32.size
   refine bindP_nil ?_
   exact OpS_v rfl (mvB rfl)
  refine OblL_cons (fun w34 x35 => ?_) ?_
  ·have z36 := x35.size
   refine bindP_eq (bindP_nil ?_)
   exact OpS_v rfl (o_not rfl)
  refine OblL_cons (fun w37 x38 => ?_) ?_
  ·have z39 := x38.size
   refine bindP_eq (bindP_nil ?_)
   exact OpS_v rfl (mvB rfl)
  refine OblL_cons (fun w40 x41 => ?_) ?_
  ·have z42 := x41.size
   have hb12 := hb12.ext x41
   refine bindP_eq (bindP_nil ?_)
   refine OpS_on 2 53 rfl rfl ?_
   exact OpS_v rfl (o_loadS Tryz.isAgg27 Tryz.sizeOf27 rfl hb12.at rfl)
  refine OblL_cons (fun w43 x44 => ?_) ?_
  ·have z45 := x44.size
   have hb14 := hb14.ext x44
   refine bindP_eq (bindP_nil ?_)
   refine OpS_on 2 53 rfl rfl ?_
   exact OpS_v rfl (o_loadS Tryz.isAgg27 Tryz.sizeOf27 rfl hb14.at rfl)
  refine OblL_cons (fun w46 x47 => ?_) ?_
  ·have z48 := x47.size
   have hs42 := hs42.ext x47
   have hs48 := hs48.ext x47
   refine bindP_eq (bindP_eq (bindP_eq (bindP_eq (bindP_nil ?_))))
   refine OpS_on 2 53 rfl rfl ?_
   exact OpS_call rfl (o_call2 Tryz.call18 rfl rfl) (csequal_ok a42 a48 c42 c48 _ _ (sortO (bothO X Y)) (sortO (bothO Y X)) _ hs42 hs48)
  refine OblL_cons (fun w49 x50 => ?_) ?_
  ·have z51 := x50.size
   refine bindP_eq (bindP_eq (bindP_nil ?_))
   refine OpS_on 2 53 rfl rfl ?_
   exact OpS_v rfl (o_not rfl)
  refine OblL_cons (fun w52 x53 => ?_) ?_
  ·have z54 := x53.size
   refine bindP_eq (bindP_eq (bindP_nil ?_))
   exact OpS_v rfl (o_pickF (v := .bool _) rfl rfl)
  refine OblL_cons (fun w55 x56 => ?_) ?_
  ·have z57 := x56.size
   refine bindP_eq (bindP_eq (bindP_nil ?_))
   exact OpS_v rfl (mvB rfl)
  refine OblL_cons (fun w58 x59 => ?_) ?_
  ·have z60 := x59.size
   refine bindP_eq (bindP_nil ?_)
   refine OpS_on 8 59 rfl (congrArg Value.bool (by rw [both_swap hX0 hY0]; simp)) ?_
   exact OpS_v rfl (mvS rfl)
  refine OblL_cons (fun w61 x62 => ?_) ?_
  ·have z63 := x62.size
   refine bindP_eq (bindP_eq (bindP_nil ?_))
   refine OpS_on 8 59 rfl (congrArg Value.bool (by rw [both_swap hX0 hY0]; simp)) ?_
   exact OpS_v rfl (o_llen Tryz.underlying31 rfl)
  refine OblL_cons (fun w64 x65 => ?_) ?_
  ·have z66 := x65.size
   refine bindP_eq (bindP_nil ?_)
   refine OpS_on 8 59 rfl (congrArg Value.bool (by rw [both_swap hX0 hY0]; simp)) ?_
   exact OpS_v rfl (mvS rfl)
  refine OblL_cons (fun w67 x68 => ?_) ?_
  ·have z69 := x68.size
   refine bindP_eq (bindP_eq (bindP_nil ?_))
   refine OpS_on 8 59 rfl (congrArg Value.bool (by rw [both_swap hX0 hY0]; simp)) ?_
   exact OpS_v rfl (o_llen Tryz.underlying31 rfl)
  refine OblL_cons (fun w70 x71 => ?_) ?_
  ·have z72 := x71.size
   refine bindP_eq (bindP_eq (bindP_eq (bindP_nil ?_)))
   refine OpS_on 8 59 rfl (congrArg Value.bool (by rw [both_swap hX0 hY0]; simp)) ?_
   exact OpS_v rfl (o_neq rfl rfl)
  refine OblL_cons (fun w73 x74 => ?_) ?_
  ·have z75 := x74.size
   refine bindP_eq (bindP_eq (bindP_nil ?_))
   exact OpS_v rfl (o_pickF (v := .bool _) (congrArg Value.bool (by rw [both_swap hX0 hY0]; simp)) rfl)
  refine OblL_cons (fun w76 x77 => ?_) ?_
  ·have z78 := x77.size
   refine bindP_eq (bindP_eq (bindP_nil ?_))
   exact OpS_v rfl (mvB rfl)
  refine OblL_cons (fun w79 x80 => ?_) ?_
  ·have z81 := x80.size
   have hb7 := hb7.ext x80
   refine bindP_eq (bindP_nil ?_)
   refine OpS_on 15 66 rfl (congrArg Value.bool (by rw [cfl_lenS hX0 hY0]; simp)) ?_
   exact OpS_v rfl (o_loadS Tryz.isAgg27 Tryz.sizeOf27 rfl hb7.at rfl)
  refine OblL_cons (fun w82 x83 => ?_) ?_
  ·have z84 := x83.size
   have hb8 := hb8.ext x83
   refine bindP_eq (bindP_nil ?_)
   refine OpS_on 15 66 rfl (congrArg Value.bool (by rw [cfl_lenS hX0 hY0]; simp)) ?_
   exact OpS_v rfl (o_loadS Tryz.isAgg27 Tryz.sizeOf27 rfl hb8.at rfl)
  refine OblL_cons (fun w85 x86 => ?_) ?_
  ·have z87 := x86.size
   have hsa33 := hsa33.ext x86
   have hsb33 := hsb33.ext x86
   refine bindP_eq (bindP_eq (bindP_eq (bindP_eq (bindP_nil ?_))))
   refine OpS_on 15 66 rfl (congrArg Value.bool (by rw [cfl_lenS hX0 hY0]; simp)) ?_
   exact OpS_call rfl (o_call2 Tryz.call12 rfl rfl) (mcomm_ok a33 b33 c33 d33 _ _ X Y _ hsa33 hsb33 hX0 hY0 (by omega) (by omega))
  refine OblL_cons (fun w88 x89 => ?_) ?_
  ·have z90 := x89.size
   have hb8 := hb8.ext x89
   refine bindP_eq (bindP_nil ?_)
   refine OpS_on 15 66 rfl (congrArg Value.bool (by rw [cfl_lenS hX0 hY0]; simp)) ?_
   exact OpS_v rfl (o_loadS Tryz.isAgg27 Tryz.sizeOf27 rfl hb8.at rfl)
  refine OblL_cons (fun w91 x92 => ?_) ?_
  ·have z93 := x92.size
   have hb7 := hb7.ext x92
   refine bindP_eq (bindP_nil ?_)
   refine OpS_on 15 66 rfl (congrArg Value.bool (by rw [cfl_lenS hX0 hY0]; simp)) ?_
   exact OpS_v rfl (o_loadS Tryz.isAgg27 Tryz.sizeOf27 rfl hb7.at rfl)
  refine OblL_cons (fun w94 x95 => ?_) ?_
  ·have z96 := x95.size
   have hsa33 := hsa33.ext x95
   have hsb33 := hsb33.ext x95
   refine bindP_eq (bindP_eq (bindP_eq (bindP_eq (bindP_nil ?_))))
   refine OpS_on 15 66 rfl (congrArg Value.bool (by rw [cfl_lenS hX0 hY0]; simp)) ?_
   exact OpS_call rfl (o_call2 Tryz.call12 rfl rfl) (mcomm_ok b33 a33 d33 c33 _ _ Y X _ hsb33 hsa33 hY0 hX0 (by omega) (by omega))
  refine OblL_cons (fun w97 x98 => ?_) ?_
  ·have z99 := x98.size
   refine bindP_eq (bindP_eq (bindP_eq (bindP_nil ?_)))
   refine OpS_on 15 66 rfl (congrArg Value.bool (by rw [cfl_lenS hX0 hY0]; simp)) ?_
   exact OpS_v rfl (o_bneq Tryz.underlying4 rfl rfl)
  refine OblL_cons (fun w100 x101 => ?_) ?_
  ·have z102 := x101.size
   refine bindP_eq (bindP_eq (bindP_nil ?_))
   exact OpS_v rfl (o_pickF (v := .bool _) (congrArg Value.bool (by rw [cfl_lenS hX0 hY0]; simp)) rfl)
  refine OblL_cons (fun w103 x104 => ?_) ?_
  ·have z105 := x104.size
   refine bindP_eq (bindP_eq (bindP_nil ?_))
   exact OpS_v rfl (mvB rfl)
  refine OblL_cons (fun w106 x107 => ?_) ?_
  ·have z108 := x107.size
   have hb7 := hb7.ext x107
   refine bindP_eq (bindP_nil ?_)
   refine OpS_on 24 75 rfl (congrArg Value.bool (by rw [comm_swap hX0 hY0]; simp)) ?_
   exact OpS_v rfl (o_loadS Tryz.isAgg27 Tryz.sizeOf27 rfl hb7.at rfl)
  refine OblL_cons (fun w109 x110 => ?_) ?_
  ·have z111 := x110.size
   have hb8 := hb8.ext x110
   refine bindP_eq (bindP_nil ?_)
   refine OpS_on 24 75 rfl (congrArg Value.bool (by rw [comm_swap hX0 hY0]; simp)) ?_
   exact OpS_v rfl (o_loadS Tryz.isAgg27 Tryz.sizeOf27 rfl hb8.at rfl)
  refine OblL_cons (fun w112 x113 => ?_) ?_
  ·have z114 := x113.size
   have hsa33 := hsa33.ext x113
   have hsb33 := hsb33.ext x113
   refine bindP_eq (bindP_eq (bindP_eq (bindP_eq (bindP_nil ?_))))
   refine OpS_on 24 75 rfl (congrArg Value.bool (by rw [comm_swap hX0 hY0]; simp)) ?_
   exact OpS_call rfl (o_call2 Tryz.call12 rfl rfl) (mcomm_ok a33 b33 c33 d33 _ _ X Y _ hsa33 hsb33 hX0 hY0 (by omega) (by omega))
  refine OblL_cons (fun w115 x116 => ?_) ?_
  ·have z117 := x116.size
   refine bindP_eq (bindP_eq (bindP_eq (bindP_nil ?_)))
   refine OpS_on 24 75 rfl (congrArg Value.bool (by rw [comm_swap hX0 hY0]; simp)) ?_
   exact OpS_v rfl (mvB rfl)
  refine OblL_cons (fun w118 x119 => ?_) ?_
  ·have z120 := x119.size
   refine bindP_eq (bindP_nil ?_)
   exact OpS_may 28 79 rfl rfl (fun hg => (mvS rfl))
  refine OblL_cons (fun w121 x122 => ?_) ?_
  ·have z123 := x122.size
   refine bindP_eq (bindP_eq (bindP_nil ?_))
   exact OpS_may 28 79 rfl rfl (fun hg => (o_llen Tryz.underlying31 (gsel (u := undef) hg)))
  refine OblL_cons (fun w124 x125 => ?_) ?_
  ·have z126 := x125.size
   refine bindP_eq (bindP_eq (bindP_nil ?_))
   exact OpS_may 28 79 rfl rfl (fun hg => (o_gtr (gsel (u := undef) hg) rfl))
  refine OblL_cons (fun w127 x128 => ?_) ?_
  ·have z129 := x128.size
   refine bindP_eq (bindP_eq (bindP_eq (bindP_nil ?_)))
   refine OpS_on 24 75 rfl (congrArg Value.bool (by rw [comm_swap hX0 hY0]; simp)) ?_
   exact OpS_v rfl (o_and (u := undef) rfl rfl)
  refine OblL_cons (fun w130 x131 => ?_) ?_
  ·have z132 := x131.size
   refine bindP_eq (bindP_eq (bindP_nil ?_))
   exact OpS_v rfl (o_pickF (v := .bool _) (congrArg Value.bool (by rw [comm_swap hX0 hY0]; simp)) rfl)
  exact OblL_nil
 case fin6 =>
  intro w133 x134
  have z135 := x134.size
  replace hX := hX.ex x134
  replace hsa33 := hsa33.ext x134
  replace hsb33 := hsb33.ext x134
  replace hb7 := hb7.ext x134
  replace hb8 := hb8.ext x134
  replace hs42q := hs42q.ext x134
  replace hs48q := hs48q.ext x134
  refine bindP_eq (bindP_eq (bindP_eq (bindP_eq (bindP_eq (bindP_eq (bindP_eq (bindP_eq (bindP_eq ?_))))))))
  refine bindP_eq (bindP_eq (bindP_eq (bindP_eq (bindP_eq (bindP_eq (bindP_eq (bindP_eq (bindP_eq ?_))))))))
  refine bindP_eq (bindP_eq (bindP_eq (bindP_eq (bindP_eq (bindP_eq (bindP_eq (bindP_eq (bindP_eq ?_))))))))
  refine bindP_eq (bindP_eq (bindP_eq (bindP_eq (bindP_eq (bindP_eq (bindP_eq (bindP_nil (Rg_nil ?_))))))))
  refine W_cond_false (congrArg Value.bool (turn_no hX0 hY0)) ?_
  refine W_skip (W_seq (W_seq (W_region ?_)))
  refine Rr (mvS rfl) ?_
  refine Rr (o_llen Tryz.underlying31 rfl) ?_
  refine Rr o_movec ?_
  refine Rg_nil (W_block ?_)
  refine W_for (α := Nat) [(6, 6), (16, 16), (87, 141)] (fun k => [(87, .int .i64 (k : Int))]) (fun k w' => (k ≤ (cflO X Y).length) ∧ Ext False w133 w') (fun k => (cflO X Y).length - k) 0 ⟨rfl, trivial⟩ ⟨Nat.zero_le _, Bel.refl _ _⟩ ?_
  rintro k fb138 w137 ⟨hk, hXL136⟩
  have z139 := Bel.size hXL136
  replace hX := hX.ex hXL136
  replace hsa33 := hsa33.ext hXL136
  replace hsb33 := hsb33.ext hXL136
  replace hb7 := hb7.ext hXL136
  replace hb8 := hb8.ext hXL136
  replace hs42q := hs42q.ext hXL136
  replace hs48q := hs48q.ext hXL136
  have hNl : (cflO X Y).length = (badK X Y).length := List.length_map ..
  have hlS := cfl_lenS hX0 hY0
  have hbl := bad_len X Y
  refine W_seq (W_region ?_)
  refine Rr (o_lss rfl rfl) ?_
  refine Rg_nil (W_seq ?_)
  refine W_cond rfl (fun hc3 => ?_) (fun hc3 => ?_)
  ·have hk1 : k < (cflO X Y).length := by have := of_decide_eq_true hc3; omega
   refine W_skip (W_seq (W_block (W_seq (W_region ?_))))
   refine Rr (mvI rfl) ?_
   refine Rr (asI rfl) ?_
   refine Rg_nil (W_seq ?_)
   apply W_draw (β := False) [peq _, peq _, peq _, peq _, peq _, peq _, peq _, peq _, peq _, peq _, peq _, peq _, peq _, peq _, peq _, peq _, peq _, peq _, peq _, peq _, peq _, peq _, peq _, peq _, peq _, peq _, peq _, peq _, peq _, peq _, peq _, peq _, peq _, peq _, peq _, peq _, peq _, peq _, peq _, peq _, peq _, peq _, peq _, peq _, peq _, peq _, peq _, peq _, peq _, peq _, peq _] 51 mixed (by kernel_rfl) rfl ⟨peq_stable _, peq_stable _, peq_stable _, peq_stable _, peq_stable _, peq_stable _, peq_stable _, peq_stable _, peq_stable _, peq_stable _, peq_stable _, peq_stable _, peq_stable _, peq_stable _, peq_stable _, peq_stable _, peq_stable _, peq_stable _, peq_stable _, peq_stable _, peq_stable _, peq_stable _, peq_stable _, peq_stable _, peq_stable _, peq_stable _, peq_stable _, peq_stable _, peq_stable _, peq_stable _, peq_stable _, peq_stable _, peq_stable _, peq_stable _, peq_stable _, peq_stable _, peq_stable _, peq_stable _, peq_stable _, peq_stable _, peq_stable _, peq_stable _, peq_stable _, peq_stable _, peq_stable _, peq_stable _, peq_stable _, peq_stable _, peq_stable _, peq_stable _, peq_stable _, trivial⟩ ?ob11 ?fin11
   case ob11 =>
    refine OblL_cons (fun w140 x141 => ?_) ?_
    ·have z142 := x141.size
     refine bindP_nil ?_
     exact OpS_v rfl (mvS rfl)
    refine OblL_cons (fun w143 x144 => ?_) ?_
    ·have z145 := x144.size
     refine bindP_nil ?_
     exact OpS_v rfl (mvI rfl)
    refine OblL_cons (fun w146 x147 => ?_) ?_
    ·have z148 := x147.size
     have hs42q := hs42q.ext x147
     refine bindP_eq (bindP_eq (bindP_nil ?_))
     exact OpS_v rfl (o_iaR Tryz.underlying31 Tryz.sizeOf61 hs42q rfl rfl (by first | omega | (unfold I64; omega) | (simp; done) | (simp; omega) | (simp at *; omega)))
    refine OblL_cons (fun w149 x150 => ?_) ?_
    ·have z151 := x150.size
     have hs42q := hs42q.ext x150
     refine bindP_eq (bindP_nil ?_)
     exact OpS_v rfl (o_faE Tryz.underlying61 rfl Tryz.sizeOf57 hs42q rfl (cfl_get (show k < (badK X Y).length by omega)))
    refine OblL_cons (fun w152 x153 => ?_) ?_
    ·have z154 := x153.size
     have hs42q := hs42q.ext x153
     refine bindP_eq (bindP_nil ?_)
     exact OpS_v rfl (o_ldES (j := 0) Tryz.isAgg57 Tryz.sizeOf57 hs42q rfl (cfl_get (show k < (badK X Y).length by omega)) rfl rfl)
    refine OblL_cons (fun w155 x156 => ?_) ?_
    ·have z157 := x156.size
     refine bindP_nil ?_
     exact OpS_v rfl (mvS rfl)
    refine OblL_cons (fun w158 x159 => ?_) ?_
    ·have z160 := x159.size
     refine bindP_nil ?_
     exact OpS_v rfl (mvI rfl)
    refine OblL_cons (fun w161 x162 => ?_) ?_
    ·have z163 := x162.size
     have hs48q := hs48q.ext x162
     refine bindP_eq (bindP_eq (bindP_nil ?_))
     exact OpS_v rfl (o_iaR Tryz.underlying31 Tryz.sizeOf61 hs48q rfl rfl (by first | omega | (unfold I64; omega) | (simp; done) | (simp; omega) | (simp at *; omega)))
    refine OblL_cons (fun w164 x165 => ?_) ?_
    ·have z166 := x165.size
     have hs48q := hs48q.ext x165
     refine bindP_eq (bindP_nil ?_)
     exact OpS_v rfl (o_faE Tryz.underlying61 rfl Tryz.sizeOf57 hs48q rfl (cfl_getS hX0 hY0 (show k < (badK X Y).length by omega)))
    refine OblL_cons (fun w167 x168 => ?_) ?_
    ·have z169 := x168.size
     have hs48q := hs48q.ext x168
     refine bindP_eq (bindP_nil ?_)
     exact OpS_v rfl (o_ldES (j := 0) Tryz.isAgg57 Tryz.sizeOf57 hs48q rfl (cfl_getS hX0 hY0 (show k < (badK X Y).length by omega)) rfl rfl)
    refine OblL_cons (fun w170 x171 => ?_) ?_
    ·have z172 := x171.size
     refine bindP_eq (bindP_eq (bindP_nil ?_))
     exact OpS_v rfl (o_tneq eq_ck rfl rfl)
    refine OblL_cons (fun w173 x174 => ?_) ?_
    ·have z175 := x174.size
     refine bindP_eq (bindP_nil ?_)
     exact OpS_v rfl (mvB rfl)
    refine OblL_cons (fun w176 x177 => ?_) ?_
    ·have z178 := x177.size
     refine bindP_eq (bindP_nil ?_)
     refine OpS_on 11 101 rfl (congrArg Value.bool (bne_self_eq_false ((badK X Y).getD k okz))) ?_
     exact OpS_v rfl (mvS rfl)
    refine OblL_cons (fun w179 x180 => ?_) ?_
    ·have z181 := x180.size
     refine bindP_eq (bindP_nil ?_)
     refine OpS_on 11 101 rfl (congrArg Value.bool (bne_self_eq_false ((badK X Y).getD k okz))) ?_
     exact OpS_v rfl (mvI rfl)
    refine OblL_cons (fun w182 x183 => ?_) ?_
    ·have z184 := x183.size
     have hs42q := hs42q.ext x183
     refine bindP_eq (bindP_eq (bindP_eq (bindP_nil ?_)))
     refine OpS_on 11 101 rfl (congrArg Value.bool (bne_self_eq_false ((badK X Y).getD k okz))) ?_
     exact OpS_v rfl (o_iaR Tryz.underlying31 Tryz.sizeOf61 hs42q rfl rfl (by first | omega | (unfold I64; omega) | (simp; done) | (simp; omega) | (simp at *; omega)))
    refine OblL_cons (fun w185 x186 => ?_) ?_
    ·have z187 := x186.size
     have hs42q := hs42q.ext x186
     refine bindP_eq (bindP_eq (bindP_nil ?_))
     refine OpS_on 11 101 rfl (congrArg Value.bool (bne_self_eq_false ((badK X Y).getD k okz))) ?_
     exact OpS_v rfl (o_faE Tryz.underlying61 rfl Tryz.sizeOf59 hs42q rfl (cfl_get (show k < (badK X Y).length by omega)))
    refine OblL_cons (fun w188 x189 => ?_) ?_
    ·have z190 := x189.size
     have hs42q := hs42q.ext x189
     refine bindP_eq (bindP_eq (bindP_nil ?_))
     refine OpS_on 11 101 rfl (congrArg Value.bool (bne_self_eq_false ((badK X Y).getD k okz))) ?_
     exact OpS_v rfl (o_ldES (j := 6) Tryz.isAgg59 Tryz.sizeOf59 hs42q rfl (cfl_get (show k < (badK X Y).length by omega)) rfl rfl)
    refine OblL_cons (fun w191 x192 => ?_) ?_
    ·have z193 := x192.size
     refine bindP_eq (bindP_nil ?_)
     refine OpS_on 11 101 rfl (congrArg Value.bool (bne_self_eq_false ((badK X Y).getD k okz))) ?_
     exact OpS_v rfl (mvS rfl)
    refine OblL_cons (fun w194 x195 => ?_) ?_
    ·have z196 := x195.size
     refine bindP_eq (bindP_nil ?_)
     refine OpS_on 11 101 rfl (congrArg Value.bool (bne_self_eq_false ((badK X Y).getD k okz))) ?_
     exact OpS_v rfl (mvI rfl)
    refine OblL_cons (fun w197 x198 => ?_) ?_
    ·have z199 := x198.size
     have hs48q := hs48q.ext x198
     refine bindP_eq (bindP_eq (bindP_eq (bindP_nil ?_)))
     refine OpS_on 11 101 rfl (congrArg Value.bool (bne_self_eq_false ((badK X Y).getD k okz))) ?_
     exact OpS_v rfl (o_iaR Tryz.underlying31 Tryz.sizeOf61 hs48q rfl rfl (by first | omega | (unfold I64; omega) | (simp; done) | (simp; omega) | (simp at *; omega)))
    refine OblL_cons (fun w200 x201 => ?_) ?_
    ·have z202 := x201.size
     have hs48q := hs48q.ext x201
     refine bindP_eq (bindP_eq (bindP_nil ?_))
     refine OpS_on 11 101 rfl (congrArg Value.bool (bne_self_eq_false ((badK X Y).getD k okz))) ?_
     exact OpS_v rfl (o_faE Tryz.underlying61 rfl Tryz.sizeOf59 hs48q rfl (cfl_getS hX0 hY0 (show k < (badK X Y).length by omega)))
    refine OblL_cons (fun w203 x204 => ?_) ?_
    ·have z205 := x204.size
     have hs48q := hs48q.ext x204
     refine bindP_eq (bindP_eq (bindP_nil ?_))
     refine OpS_on 11 101 rfl (congrArg Value.bool (bne_self_eq_false ((badK X Y).getD k okz))) ?_
     exact OpS_v rfl (o_ldES (j := 14) Tryz.isAgg59 Tryz.sizeOf59 hs48q rfl (cfl_getS hX0 hY0 (show k < (badK X Y).length by omega)) rfl rfl)
    refine OblL_cons (fun w206 x207 => ?_) ?_
    ·have z208 := x207.size
     refine bindP_eq (bindP_eq (bindP_eq (bindP_nil ?_)))
     refine OpS_on 11 101 rfl (congrArg Value.bool (bne_self_eq_false ((badK X Y).getD k okz))) ?_
     exact OpS_v rfl (o_tneq eq_co rfl rfl)
    refine OblL_cons (fun w209 x210 => ?_) ?_
    ·have z211 := x210.size
     refine bindP_eq (bindP_eq (bindP_nil ?_))
     exact OpS_v rfl (o_pickF (v := .bool _) (congrArg Value.bool (bne_self_eq_false ((badK X Y).getD k okz))) rfl)
    refine OblL_cons (fun w212 x213 => ?_) ?_
    ·have z214 := x213.size
     refine bindP_eq (bindP_eq (bindP_nil ?_))
     exact OpS_v rfl (mvB rfl)
    refine OblL_cons (fun w215 x216 => ?_) ?_
    ·have z217 := x216.size
     refine bindP_eq (bindP_nil ?_)
     refine OpS_on 24 114 rfl (congrArg Value.bool (bne_self_eq_false (lastO (withK X ((badK X Y).getD k okz))))) ?_
     exact OpS_v rfl (mvS rfl)
    refine OblL_cons (fun w218 x219 => ?_) ?_
    ·have z220 := x219.size
     refine bindP_eq (bindP_nil ?_)
     refine OpS_on 24 114 rfl (congrArg Value.bool (bne_self_eq_false (lastO (withK X ((badK X Y).getD k okz))))) ?_
     exact OpS_v rfl (mvI rfl)
    refine OblL_cons (fun w221 x222 => ?_) ?_
    ·have z223 := x222.size
     have hs42q := hs42q.ext x222
     refine bindP_eq (bindP_eq (bindP_eq (bindP_nil ?_)))
     refine OpS_on 24 114 rfl (congrArg Value.bool (bne_self_eq_false (lastO (withK X ((badK X Y).getD k okz))))) ?_
     exact OpS_v rfl (o_iaR Tryz.underlying31 Tryz.sizeOf61 hs42q rfl rfl (by first | omega | (unfold I64; omega) | (simp; done) | (simp; omega) | (simp at *; omega)))
    refine OblL_cons (fun w224 x225 => ?_) ?_
    ·have z226 := x225.size
     have hs42q := hs42q.ext x225
     refine bindP_eq (bindP_eq (bindP_nil ?_))
     refine OpS_on 24 114 rfl (congrArg Value.bool (bne_self_eq_false (lastO (withK X ((badK X Y).getD k okz))))) ?_
     exact OpS_v rfl (o_faE Tryz.underlying61 rfl Tryz.sizeOf59 hs42q rfl (cfl_get (show k < (badK X Y).length by omega)))
    refine OblL_cons (fun w227 x228 => ?_) ?_
    ·have z229 := x228.size
     have hs42q := hs42q.ext x228
     refine bindP_eq (bindP_eq (bindP_nil ?_))
     refine OpS_on 24 114 rfl (congrArg Value.bool (bne_self_eq_false (lastO (withK X ((badK X Y).getD k okz))))) ?_
     exact OpS_v rfl (o_ldES (j := 14) Tryz.isAgg59 Tryz.sizeOf59 hs42q rfl (cfl_get (show k < (badK X Y).length by omega)) rfl rfl)
    refine OblL_cons (fun w230 x231 => ?_) ?_
    ·have z232 := x231.size
     refine bindP_eq (bindP_nil ?_)
     refine OpS_on 24 114 rfl (congrArg Value.bool (bne_self_eq_false (lastO (withK X ((badK X Y).getD k okz))))) ?_
     exact OpS_v rfl (mvS rfl)
    refine OblL_cons (fun w233 x234 => ?_) ?_
    ·have z235 := x234.size
     refine bindP_eq (bindP_nil ?_)
     refine OpS_on 24 114 rfl (congrArg Value.bool (bne_self_eq_false (lastO (withK X ((badK X Y).getD k okz))))) ?_
     exact OpS_v rfl (mvI rfl)
    refine OblL_cons (fun w236 x237 => ?_) ?_
    ·have z238 := x237.size
     have hs48q := hs48q.ext x237
     refine bindP_eq (bindP_eq (bindP_eq (bindP_nil ?_)))
     refine OpS_on 24 114 rfl (congrArg Value.bool (bne_self_eq_false (lastO (withK X ((badK X Y).getD k okz))))) ?_
     exact OpS_v rfl (o_iaR Tryz.underlying31 Tryz.sizeOf61 hs48q rfl rfl (by first | omega | (unfold I64; omega) | (simp; done) | (simp; omega) | (simp at *; omega)))
    refine OblL_cons (fun w239 x240 => ?_) ?_
    ·have z241 := x240.size
     have hs48q := hs48q.ext x240
     refine bindP_eq (bindP_eq (bindP_nil ?_))
     refine OpS_on 24 114 rfl (congrArg Value.bool (bne_self_eq_false (lastO (withK X ((badK X Y).getD k okz))))) ?_
     exact OpS_v rfl (o_faE Tryz.underlying61 rfl Tryz.sizeOf59 hs48q rfl (cfl_getS hX0 hY0 (show k < (badK X Y).length by omega)))
    refine OblL_cons (fun w242 x243 => ?_) ?_
    ·have z244 := x243.size
     have hs48q := hs48q.ext x243
     refine bindP_eq (bindP_eq (bindP_nil ?_))
     refine OpS_on 24 114 rfl (congrArg Value.bool (bne_self_eq_false (lastO (withK X ((badK X Y).getD k okz))))) ?_
     exact OpS_v rfl (o_ldES (j := 6) Tryz.isAgg59 Tryz.sizeOf59 hs48q rfl (cfl_getS hX0 hY0 (show k < (badK X Y).length by omega)) rfl rfl)
    refine OblL_cons (fun w245 x246 => ?_) ?_
    ·have z247 := x246.size
     refine bindP_eq (bindP_eq (bindP_eq (bindP_nil ?_)))
     refine OpS_on 24 114 rfl (congrArg Value.bool (bne_self_eq_false (lastO (withK X ((badK X Y).getD k okz))))) ?_
     exact OpS_v rfl (o_tneq eq_co rfl rfl)
    refine OblL_cons (fun w248 x249 => ?_) ?_
    ·have z250 := x249.size
     refine bindP_eq (bindP_eq (bindP_nil ?_))
     exact OpS_v rfl (o_pickF (v := .bool _) (congrArg Value.bool (bne_self_eq_false (lastO (withK X ((badK X Y).getD k okz))))) rfl)
    refine OblL_cons (fun w251 x252 => ?_) ?_
    ·have z253 := x252.size
     refine bindP_eq (bindP_eq (bindP_nil ?_))
     exact OpS_v rfl (mvB rfl)
    refine OblL_cons (fun w254 x255 => ?_) ?_
    ·have z256 := x255.size
     refine bindP_eq (bindP_nil ?_)
     refine OpS_on 37 127 rfl (congrArg Value.bool (bne_self_eq_false (lastO (withK Y ((badK X Y).getD k okz))))) ?_
     exact OpS_v rfl (mvS rfl)
    refine OblL_cons (fun w257 x258 => ?_) ?_
    ·have z259 := x258.size
     refine bindP_eq (bindP_nil ?_)
     refine OpS_on 37 127 rfl (congrArg Value.bool (bne_self_eq_false (lastO (withK Y ((badK X Y).getD k okz))))) ?_
     exact OpS_v rfl (mvI rfl)
    refine OblL_cons (fun w260 x261 => ?_) ?_
    ·have z262 := x261.size
     have hs42q := hs42q.ext x261
     refine bindP_eq (bindP_eq (bindP_eq (bindP_nil ?_)))
     refine OpS_on 37 127 rfl (congrArg Value.bool (bne_self_eq_false (lastO (withK Y ((badK X Y).getD k okz))))) ?_
     exact OpS_v rfl (o_iaR Tryz.underlying31 Tryz.sizeOf61 hs42q rfl rfl (by first | omega | (unfold I64; omega) | (simp; done) | (simp; omega) | (simp at *; omega)))
    refine OblL_cons (fun w263 x264 => ?_) ?_
    ·have z265 := x264.size
     have hs42q := hs42q.ext x264
     refine bindP_eq (bindP_eq (bindP_nil ?_))
     refine OpS_on 37 127 rfl (congrArg Value.bool (bne_self_eq_false (lastO (withK Y ((badK X Y).getD k okz))))) ?_
     exact OpS_v rfl (o_faE Tryz.underlying61 rfl Tryz.sizeOf59 hs42q rfl (cfl_get (show k < (badK X Y).length by omega)))
    refine OblL_cons (fun w266 x267 => ?_) ?_
    ·have z268 := x267.size
     have hs42q := hs42q.ext x267
     refine bindP_eq (bindP_eq (bindP_nil ?_))
     refine OpS_on 37 127 rfl (congrArg Value.bool (bne_self_eq_false (lastO (withK Y ((badK X Y).getD k okz))))) ?_
     exact OpS_v rfl (o_ldES (j := 6) Tryz.isAgg59 Tryz.sizeOf59 hs42q rfl (cfl_get (show k < (badK X Y).length by omega)) rfl rfl)
    refine OblL_cons (fun w269 x270 => ?_) ?_
    ·have z271 := x270.size
     refine bindP_eq (bindP_eq (bindP_eq (bindP_nil ?_)))
     refine OpS_on 37 127 rfl (congrArg Value.bool (bne_self_eq_false (lastO (withK Y ((badK X Y).getD k okz))))) ?_
     exact OpS_call rfl (o_call1 Tryz.call19 rfl) (ckey_ok (False) (lastO (withK X ((badK X Y).getD k okz))) _)
    refine OblL_cons (fun w272 x273 => ?_) ?_
    ·have z274 := x273.size
     refine bindP_eq (bindP_nil ?_)
     refine OpS_on 37 127 rfl (congrArg Value.bool (bne_self_eq_false (lastO (withK Y ((badK X Y).getD k okz))))) ?_
     exact OpS_v rfl (mvS rfl)
    refine OblL_cons (fun w275 x276 => ?_) ?_
    ·have z277 := x276.size
     refine bindP_eq (bindP_nil ?_)
     refine OpS_on 37 127 rfl (congrArg Value.bool (bne_self_eq_false (lastO (withK Y ((badK X Y).getD k okz))))) ?_
     exact OpS_v rfl (mvI rfl)
    refine OblL_cons (fun w278 x279 => ?_) ?_
    ·have z280 := x279.size
     have hs42q := hs42q.ext x279
     refine bindP_eq (bindP_eq (bindP_eq (bindP_nil ?_)))
     refine OpS_on 37 127 rfl (congrArg Value.bool (bne_self_eq_false (lastO (withK Y ((badK X Y).getD k okz))))) ?_
     exact OpS_v rfl (o_iaR Tryz.underlying31 Tryz.sizeOf61 hs42q rfl rfl (by first | omega | (unfold I64; omega) | (simp; done) | (simp; omega) | (simp at *; omega)))
    refine OblL_cons (fun w281 x282 => ?_) ?_
    ·have z283 := x282.size
     have hs42q := hs42q.ext x282
     refine bindP_eq (bindP_eq (bindP_nil ?_))
     refine OpS_on 37 127 rfl (congrArg Value.bool (bne_self_eq_false (lastO (withK Y ((badK X Y).getD k okz))))) ?_
     exact OpS_v rfl (o_faE Tryz.underlying61 rfl Tryz.sizeOf57 hs42q rfl (cfl_get (show k < (badK X Y).length by omega)))
    refine OblL_cons (fun w284 x285 => ?_) ?_
    ·have z286 := x285.size
     have hs42q := hs42q.ext x285
     refine bindP_eq (bindP_eq (bindP_nil ?_))
     refine OpS_on 37 127 rfl (congrArg Value.bool (bne_self_eq_false (lastO (withK Y ((badK X Y).getD k okz))))) ?_
     exact OpS_v rfl (o_ldES (j := 0) Tryz.isAgg57 Tryz.sizeOf57 hs42q rfl (cfl_get (show k < (badK X Y).length by omega)) rfl rfl)
    refine OblL_cons (fun w287 x288 => ?_) ?_
    ·have z289 := x288.size
     refine bindP_eq (bindP_eq (bindP_eq (bindP_nil ?_)))
     refine OpS_on 37 127 rfl (congrArg Value.bool (bne_self_eq_false (lastO (withK Y ((badK X Y).getD k okz))))) ?_
     exact OpS_v rfl (o_tneq eq_ck rfl rfl)
    refine OblL_cons (fun w290 x291 => ?_) ?_
    ·have z292 := x291.size
     refine bindP_eq (bindP_eq (bindP_nil ?_))
     exact OpS_v rfl (o_pickF (v := .bool _) (congrArg Value.bool (bne_self_eq_false (lastO (withK Y ((badK X Y).getD k okz))))) rfl)
    exact OblL_nil
   case fin11 =>
    intro w293 x294
    have z295 := x294.size
    replace hX := hX.ex x294
    replace hXL136 := Bel.ex hXL136 x294
    refine bindP_eq (bindP_eq (bindP_eq (bindP_eq (bindP_eq (bindP_eq (bindP_eq (bindP_eq (bindP_eq ?_))))))))
    refine bindP_eq (bindP_eq (bindP_eq (bindP_eq (bindP_eq (bindP_eq (bindP_eq (bindP_eq (bindP_eq ?_))))))))
    refine bindP_eq (bindP_eq (bindP_eq (bindP_eq (bindP_eq (bindP_eq (bindP_eq (bindP_eq (bindP_eq ?_))))))))
    refine bindP_eq (bindP_eq (bindP_eq (bindP_eq (bindP_eq (bindP_eq (bindP_eq (bindP_eq (bindP_eq ?_))))))))
    refine bindP_eq (bindP_eq (bindP_eq (bindP_eq (bindP_eq (bindP_eq (bindP_eq (bindP_eq (bindP_eq ?_))))))))
    refine bindP_eq (bindP_eq (bindP_eq (bindP_eq (bindP_eq (bindP_eq (bindP_nil (Rg_nil ?_)))))))
    refine W_cond_false (congrArg Value.bool (by rw [last_key hX0 (by omega)]; exact bne_self_eq_false _)) ?_
    refine W_skip (W_region ?_)
    refine Rr (o_add rfl rfl (by first | omega | (unfold I64; omega) | (simp; done) | (simp; omega) | (simp at *; omega))) ?_
    refine Rr (mvI rfl) ?_
    refine Rg_nil ?_
    refine ⟨k + 1, ⟨?_, trivial⟩, ?_, ⟨?_, hXL136⟩, ?_⟩
    ·first | rfl | (go_num) | (exact congrArg _ (by omega))
    ·repeat (first | exact oR _ _ | exact oM | refine oP rfl ?_ | refine oN ?_ | refine oL rfl ?_ | refine oX rfl ?_)
    ·omega
    ·omega
  have hk1 : ¬ k < (cflO X Y).length := by have := of_decide_eq_false hc3; omega
  refine W_exit (exAt_hit (W_seq (W_region ?_)))
  obtain ⟨n5, hn5⟩ : ∃ n, n = w137.heap.size := ⟨_, rfl⟩
  refine Rr (mvS rfl) ?_
  refine Rr (o_llen Tryz.underlying31 rfl) ?_
  refine Rg_make (m := (cflO X Y).length) false rfl encBl_ok el_bl rfl rfl rfl (by have h1 := bad_len X Y; have h2 : (cflO X Y).length = (badK X Y).length := List.length_map ..; omega) ?_
  intro a144 w296 x297 hown144
  have z298 := x297.size
  replace hX := hX.ex x297
  replace hsa33 := hsa33.ext x297
  replace hsb33 := hsb33.ext x297
  replace hb7 := hb7.ext x297
  replace hb8 := hb8.ext x297
  refine Rr (asS rfl) ?_
  refine Rg_nil (W_seq (W_region ?_))
  obtain ⟨n6, hn6⟩ : ∃ n, n = w296.heap.size := ⟨_, rfl⟩
  replace hown144 := hown144.mono (D' := fun g => n5 ≤ g ∧ g < n6) (fun g h1 h2 => ⟨by omega, by omega⟩)
  have hNl : (cflO X Y).length = (badK X Y).length := List.length_map ..
  have hresF := res_val hX0 hY0 (c := List.replicate (cflO X Y).length false) (by rw [List.length_replicate, hNl])
  have hresT := res_val hX0 hY0 (c := List.replicate (cflO X Y).length true) (by rw [List.length_replicate, hNl])
  have hrlF := res_len hX0 hY0 (c := List.replicate (cflO X Y).length false) (by rw [List.length_replicate, hNl])
  have hrlT := res_len hX0 hY0 (c := List.replicate (cflO X Y).length true) (by rw [List.length_replicate, hNl])
  have hmm : X.length * (X.length + Y.length) ≤ 10 * 20 := Nat.mul_le_mul hXl (by omega)
  refine Rr (o_loadS Tryz.isAgg27 Tryz.sizeOf27 rfl hb7.at rfl) ?_
  refine Rr (o_loadS Tryz.isAgg27 Tryz.sizeOf27 rfl hb8.at rfl) ?_
  refine Rr (mvS rfl) ?_
  refine Rg_enter rfl (o_call3 Tryz.call15 rfl rfl rfl) (Ok.mono (mres_ok a33 b33 c33 d33 _ _ X Y _ hsa33 hsb33 hX0 hY0 (by omega) (by omega) _ (List.replicate (cflO X Y).length false) (hown144.trd encBl_ok)) ?_)
  rintro _ w299 ⟨⟨a149, c149, rfl, hs149⟩, x300⟩
  replace hown144 := hown144.mono (D' := fun g => n5 ≤ g ∧ g < n6 ∧ ¬ (w296.heap.size ≤ g ∧ g < w299.heap.size)) (fun g h1 h2 => by omega)
  have z301 := x300.size
  replace hX := hX.ex x300
  replace hsa33 := hsa33.ext x300
  replace hsb33 := hsb33.ext x300
  replace hb7 := hb7.ext x300
  replace hb8 := hb8.ext x300
  replace hown144 := hown144.ext x300
  refine Rr (o_moveh (v := .tuple _) rfl) ?_
  refine Rr (o_extract rfl rfl) ?_
  refine Rr (o_extract rfl rfl) ?_
  refine Rg_alst rfl rfl Tryz.zeroValue27 rfl Tryz.sizeOf27 (fun _ => rfl) rfl rfl ?_
  intro b18 w302 x303 hge18 hb18
  replace hown144 := hown144.mono (D' := fun g => n5 ≤ g ∧ g < n6 ∧ ¬ (w296.heap.size ≤ g ∧ g < w299.heap.size) ∧ g ≠ b18) (fun g h1 h2 => by omega)
  have hlt18 := hb18.lt
  change Box _ _ _ (wsS _ _ _) at hb18
  have z304 := x303.size
  replace hX := hX.ex x303
  replace hsa33 := hsa33.ext x303
  replace hsb33 := hsb33.ext x303
  replace hb7 := hb7.ext x303
  replace hb8 := hb8.ext x303
  replace hown144 := hown144.ext x303
  replace hs149 := hs149.ext x303
  refine Rr (asI rfl) ?_
  refine Rg_nil (W_seq (W_seq (W_region ?_)))
  refine Rr (mvS rfl) ?_
  refine Rr (o_llen Tryz.underlying42 rfl) ?_
  refine Rr o_movec ?_
  refine Rg_nil (W_block ?_)
  refine W_for (α := Nat) [(20, 20), (154, 160)] (fun k => [(154, .int .i64 (k : Int))]) (fun k w' => (k ≤ (cflO X Y).length) ∧ Bel False (fun g => n5 ≤ g ∧ g < n6) w302 w' ∧ (Own encBl 1 4 (fun g => n5 ≤ g ∧ g < n6) w' (.slice a144 (cflO X Y).length (cflO X Y).length) (List.replicate k true ++ List.replicate ((cflO X Y).length - k) false))) (fun k => (cflO X Y).length - k) 0 ⟨rfl, trivial⟩ ⟨Nat.zero_le _, Bel.refl _ _, (by rw [List.replicate_zero, Nat.sub_zero, List.nil_append]; exact hown144.mono (fun g h1 h2 => by omega))⟩ ?_
  rintro k fb307 w306 ⟨hk, hXL305, hown144⟩
  have z308 := Bel.size hXL305
  replace hX := Bel.out hX hXL305 (fun g h1 h2 => by first | exact h2 | omega)
  replace hsa33 := hsa33.keep hXL305 (fun g h1 h2 h3 => by omega)
  replace hsb33 := hsb33.keep hXL305 (fun g h1 h2 h3 => by omega)
  replace hb7 := hb7.keep hXL305 (fun h => by omega)
  replace hb8 := hb8.keep hXL305 (fun h => by omega)
  replace hs149 := hs149.keep hXL305 (fun g h1 h2 h3 => by omega)
  replace hb18 := hb18.keep hXL305 (fun h => by omega)
  refine W_seq (W_region ?_)
  refine Rr (o_lss rfl rfl) ?_
  refine Rg_nil (W_seq ?_)
  refine W_cond rfl (fun hc5 => ?_) (fun hc5 => ?_)
  ·have hk1 : k < (cflO X Y).length := by have := of_decide_eq_true hc5; omega
   refine W_skip (W_seq (W_block (W_seq (W_region ?_))))
   refine Rr (mvI rfl) ?_
   refine Rr (asI rfl) ?_
   refine Rg_nil (W_region ?_)
   refine Rr (mvS rfl) ?_
   refine Rr (mvI rfl) ?_
   refine Rr (o_iaO (i := k) Tryz.underlying42 Tryz.sizeOf4 hown144 rfl rfl (by omega)) ?_
   refine Rg_elst (u := true) rfl encBl_ok Tryz.sizeOf4 rfl rfl rfl hown144 (by simp; omega) ?_
   intro w309 x310 hown144
   have z311 := x310.size
   replace hX := Bel.out hX x310 (fun g h1 h2 => by first | exact h2 | omega)
   replace hXL305 := Bel.out hXL305 x310 (fun g h1 h2 => by first | exact h2 | omega)
   refine Rg_nil (W_region ?_)
   refine Rr (o_add rfl rfl (by first | omega | (unfold I64; omega) | (simp; done) | (simp; omega) | (simp at *; omega))) ?_
   refine Rr (mvI rfl) ?_
   refine Rg_nil ?_
   refine ⟨k + 1, ⟨?_, trivial⟩, ?_, ⟨?_, hXL305, ?_⟩, ?_⟩
   ·first | rfl | (go_num) | (exact congrArg _ (by omega))
   ·repeat (first | exact oR _ _ | exact oM | refine oP rfl ?_ | refine oN ?_ | refine oL rfl ?_ | refine oX rfl ?_)
   ·omega
   ·rw [set_rep (by omega)] at hown144; exact hown144
   ·omega
  have hk1 : ¬ k < (cflO X Y).length := by have := of_decide_eq_false hc5; omega
  refine W_exit (exAt_hit (W_seq (W_region ?_)))
  have hkN : k = (cflO X Y).length := by omega
  rw [hkN, Nat.sub_self, List.replicate_zero, List.append_nil] at hown144
  refine Rr (o_loadS Tryz.isAgg27 Tryz.sizeOf27 rfl hb7.at rfl) ?_
  refine Rr (o_loadS Tryz.isAgg27 Tryz.sizeOf27 rfl hb8.at rfl) ?_
  refine Rr (mvS rfl) ?_
  refine Rg_enter rfl (o_call3 Tryz.call15 rfl rfl rfl) (Ok.mono (mres_ok a33 b33 c33 d33 _ _ X Y _ hsa33 hsb33 hX0 hY0 (by omega) (by omega) _ (List.replicate (cflO X Y).length true) (hown144.trd encBl_ok)) ?_)
  rintro _ w312 ⟨⟨a165, c165, rfl, hs165⟩, x313⟩
  have z314 := x313.size
  replace hX := hX.ex x313
  replace hsa33 := hsa33.ext x313
  replace hsb33 := hsb33.ext x313
  replace hb7 := hb7.ext x313
  replace hb8 := hb8.ext x313
  replace hs149 := hs149.ext x313
  replace hb18 := hb18.ext x313
  refine Rr (o_moveh (v := .tuple _) rfl) ?_
  refine Rr (o_extract rfl rfl) ?_
  refine Rr (o_extract rfl rfl) ?_
  refine Rg_alst rfl rfl Tryz.zeroValue27 rfl Tryz.sizeOf27 (fun _ => rfl) rfl rfl ?_
  intro b21 w315 x316 hge21 hb21
  have hlt21 := hb21.lt
  change Box _ _ _ (wsS _ _ _) at hb21
  have z317 := x316.size
  replace hX := hX.ex x316
  replace hsa33 := hsa33.ext x316
  replace hsb33 := hsb33.ext x316
  replace hb7 := hb7.ext x316
  replace hb8 := hb8.ext x316
  replace hs149 := hs149.ext x316
  replace hb18 := hb18.ext x316
  replace hs165 := hs165.ext x316
  refine Rr (asI rfl) ?_
  refine Rg_nil (W_seq (W_seq (W_region ?_)))
  refine Rr (mvI rfl) ?_
  refine Rr (o_neq rfl rfl) ?_
  refine Rr (mvB rfl) ?_
  refine Rg_on 2 170 rfl (congrArg Value.bool (by rw [hresF]; rfl)) ?_
  refine Rr (mvI rfl) ?_
  refine Rg_on 2 170 rfl (congrArg Value.bool (by rw [hresF]; rfl)) ?_
  refine Rr (o_neq rfl rfl) ?_
  refine Rr (o_pickF (v := .bool _) (congrArg Value.bool (by rw [hresF]; rfl)) rfl) ?_
  refine Rg_nil ?_
  refine W_cond_false (congrArg Value.bool (by rw [hresT]; rfl)) ?_
  refine W_skip (W_seq (W_seq (W_region ?_)))
  refine Rr (o_loadS Tryz.isAgg27 Tryz.sizeOf27 rfl hb7.at rfl) ?_
  refine Rg_enter rfl (o_call1 Tryz.call20 rfl) (Ok.mono (cops_ok a33 c33 _ X _ hsa33 (by omega)) ?_)
  rintro v175 w318 ⟨hown175, x319⟩
  have z320 := x319.size
  replace hX := hX.ex x319
  replace hsb33 := hsb33.ext x319
  replace hb8 := hb8.ext x319
  replace hs149 := hs149.ext x319
  replace hb18 := hb18.ext x319
  replace hs165 := hs165.ext x319
  replace hb21 := hb21.ext x319
  replace hown175 := hown175.mono (D' := fun g => n6 ≤ g) (fun g h1 h2 => by omega)
  obtain ⟨a175, c175, hv175, hs175⟩ := hown175.sl encCo_ok
  subst hv175
  refine Rr (o_llen Tryz.underlying25 rfl) ?_
  refine Rr o_movec ?_
  refine Rg_nil (W_block ?_)
  refine W_for (α := Nat) [(6, 6), (24, 24), (177, 186)] (fun k => [(177, .int .i64 (k : Int))]) (fun k w' => (k ≤ X.length) ∧ Ext False w318 w') (fun k => X.length - k) 0 ⟨rfl, trivial⟩ ⟨Nat.zero_le _, Bel.refl _ _⟩ ?_
  rintro k fb323 w322 ⟨hk, hXL321⟩
  have z324 := Bel.size hXL321
  replace hX := hX.ex hXL321
  replace hsb33 := hsb33.ext hXL321
  replace hb8 := hb8.ext hXL321
  replace hs149 := hs149.ext hXL321
  replace hb18 := hb18.ext hXL321
  replace hs165 := hs165.ext hXL321
  replace hb21 := hb21.ext hXL321
  replace hs175 := hs175.ext hXL321
  refine W_seq (W_region ?_)
  refine Rr (o_lss rfl rfl) ?_
  refine Rg_nil (W_seq ?_)
  refine W_cond rfl (fun hc7 => ?_) (fun hc7 => ?_)
  ·have hk1 : k < X.length := by have := of_decide_eq_true hc7; omega
   refine W_skip (W_seq (W_block (W_seq (W_region ?_))))
   refine Rr (o_iaR Tryz.underlying25 Tryz.sizeOf59 hs175 rfl rfl (by first | omega | (unfold I64; omega) | (simp; done) | (simp; omega) | (simp at *; omega))) ?_
   refine Rr (o_ldRS Tryz.isAgg59 Tryz.sizeOf59 hs175 rfl (getE coz (by omega))) ?_
   refine Rg_alst rfl rfl Tryz.zeroValue59 rfl Tryz.sizeOf59 (fun _ => rfl) rfl rfl ?_
   intro b24 w325 x326 hge24 hb24
   have hlt24 := hb24.lt
   change Box _ _ _ (encCo _) at hb24
   have z327 := x326.size
   replace hX := hX.ex x326
   replace hXL321 := Bel.ex hXL321 x326
   replace hs165 := hs165.ext x326
   replace hb21 := hb21.ext x326
   refine Rg_nil (W_seq ?_)
   apply W_drawC (β := False) (fun _ => 0) [peqC _, (postW (ListIs encCo 8 0 (fun M => M = (resolveO X Y (List.replicate (cflO X Y).length true)).1))), peqC _, peqC _, peqC _] [0, 0, 0, 0, 0] 5 mixed (by kernel_rfl) (by kernel_rfl) rfl ⟨peqC_stable _ _, (postW_stable (ListIs.keepS _ _ _ _)), peqC_stable _ _, peqC_stable _ _, peqC_stable _ _, trivial⟩ ?ob27 ?fin27
   case ob27 =>
    refine OblC_cons (fun w328 c330 x329 hc0331 hk332 => ?_) ?_
    ·replace x329 := RelG.ext0 x329
     have z333 := x329.size
     have hb21 := hb21.ext x329
     refine bindC_nil ?_
     exact OpC_v rfl (o_loadS Tryz.isAgg27 Tryz.sizeOf27 rfl hb21.at rfl)
    refine OblC_cons (fun w334 c336 x335 hc0337 hk338 => ?_) ?_
    ·replace x335 := RelG.ext0 x335
     have z339 := x335.size
     have hs165 := hs165.ext x335
     refine bindC_eq (bindC_nil ?_)
     exact OpC_W (S := ListIs encCo 8 0 (fun M => M = (resolveO X Y (List.replicate (cflO X Y).length true)).1)) rfl (o_call1 Tryz.call20 rfl) ((cops_ok a165 c165 _ ((resolveO X Y (List.replicate (cflO X Y).length true)).1) _ hs165 (by omega)).mono (fun v w2 ⟨h, x⟩ => ⟨⟨fun _ _ => Nat.zero_le _, _, h.rd encCo_ok, rfl⟩, x⟩))
    refine OblC_cons (fun w340 c342 x341 hc0343 hk344 => ?_) ?_
    ·replace x341 := RelG.ext0 x341
     have z345 := x341.size
     have hb24 := hb24.ext x341
     refine bindC_nil ?_
     exact OpC_v rfl (o_loadS Tryz.isAgg59 Tryz.sizeOf59 rfl hb24.at rfl)
    refine OblC_cons (fun w346 c348 x347 hc0349 hk350 => ?_) ?_
    ·replace x347 := RelG.ext0 x347
     have z351 := x347.size
     refine bindC_mem (fun v182 hv182 => ?_)
     obtain ⟨F182, hF182, -, M182, ⟨a182, c182, rfl, hs182⟩, rfl⟩ := hv182
     refine bindC_eq ?_
     refine bindC_mem (fun v182 hv182 => ?_)
     obtain ⟨F182, hF182, -, M182, ⟨a182, c182, rfl, hs182⟩, rfl⟩ := hv182
     refine bindC_nil ?_
     exact OpC_call rfl (o_call2 Tryz.call21 rfl rfl) (cocont_ok a182 c182 _ (resolveO X Y (List.replicate (cflO X Y).length true)).1 (X.getD k coz) _ hs182)
    refine OblC_cons (fun w352 c354 x353 hc0355 hk356 => ?_) ?_
    ·replace x353 := RelG.ext0 x353
     have z357 := x353.size
     refine bindC_eq (bindC_nil ?_)
     exact OpC_v rfl (o_not rfl)
    exact OblC_nil
   case fin27 =>
    intro w358 c360 x359 hc0361
    replace x359 := RelG.ext0 x359
    have z362 := x359.size
    replace hX := hX.ex x359
    replace hXL321 := Bel.ex hXL321 x359
    refine bindC_eq ?_
    refine bindC_mem (fun v182 hv182 => ?_)
    obtain ⟨F182, hF182, -, M182, ⟨a182, c182, rfl, hs182⟩, rfl⟩ := hv182
    refine bindC_eq (bindC_eq (bindC_eq (bindC_nil (Rg_nil ?_))))
    refine W_cond_false (congrArg Value.bool (by have h : X.getD k coz ∈ (resolveO X Y (List.replicate (cflO X Y).length true)).1 := hNl ▸ res_t hX0 hY0 (gm (show k < X.length by omega)); rw [any_beq h]; rfl)) ?_
    refine W_skip (W_region ?_)
    refine Rr (o_add rfl rfl (by first | omega | (unfold I64; omega) | (simp; done) | (simp; omega) | (simp at *; omega))) ?_
    refine Rr (mvI rfl) ?_
    refine Rg_nil ?_
    refine ⟨k + 1, ⟨?_, trivial⟩, ?_, ⟨?_, hXL321⟩, ?_⟩
    ·first | rfl | (go_num) | (exact congrArg _ (by omega))
    ·repeat (first | exact oR _ _ | exact oM | refine oP rfl ?_ | refine oN ?_ | refine oL rfl ?_ | refine oX rfl ?_)
    ·omega
    ·omega
  have hk1 : ¬ k < X.length := by have := of_decide_eq_false hc7; omega
  refine W_exit (exAt_hit (W_seq (W_seq (W_region ?_))))
  refine Rr (o_loadS Tryz.isAgg27 Tryz.sizeOf27 rfl hb8.at rfl) ?_
  refine Rg_enter rfl (o_call1 Tryz.call20 rfl) (Ok.mono (cops_ok b33 d33 _ Y _ hsb33 (by omega)) ?_)
  rintro v188 w363 ⟨hown188, x364⟩
  have z365 := x364.size
  replace hX := hX.ex x364
  replace hs149 := hs149.ext x364
  replace hb18 := hb18.ext x364
  replace hown188 := hown188.mono (D' := fun g => n6 ≤ g) (fun g h1 h2 => by omega)
  obtain ⟨a188, c188, hv188, hs188⟩ := hown188.sl encCo_ok
  subst hv188
  refine Rr (o_llen Tryz.underlying25 rfl) ?_
  refine Rr o_movec ?_
  refine Rg_nil (W_block ?_)
  refine W_for (α := Nat) [(6, 6), (26, 26), (190, 199)] (fun k => [(190, .int .i64 (k : Int))]) (fun k w' => (k ≤ Y.length) ∧ Ext False w363 w') (fun k => Y.length - k) 0 ⟨rfl, trivial⟩ ⟨Nat.zero_le _, Bel.refl _ _⟩ ?_
  rintro k fb368 w367 ⟨hk, hXL366⟩
  have z369 := Bel.size hXL366
  replace hX := hX.ex hXL366
  replace hs149 := hs149.ext hXL366
  replace hb18 := hb18.ext hXL366
  replace hs188 := hs188.ext hXL366
  refine W_seq (W_region ?_)
  refine Rr (o_lss rfl rfl) ?_
  refine Rg_nil (W_seq ?_)
  refine W_cond rfl (fun hc9 => ?_) (fun hc9 => ?_)
  ·have hk1 : k < Y.length := by have := of_decide_eq_true hc9; omega
   refine W_skip (W_seq (W_block (W_seq (W_region ?_))))
   refine Rr (o_iaR Tryz.underlying25 Tryz.sizeOf59 hs188 rfl rfl (by first | omega | (unfold I64; omega) | (simp; done) | (simp; omega) | (simp at *; omega))) ?_
   refine Rr (o_ldRS Tryz.isAgg59 Tryz.sizeOf59 hs188 rfl (getE coz (by omega))) ?_
   refine Rg_alst rfl rfl Tryz.zeroValue59 rfl Tryz.sizeOf59 (fun _ => rfl) rfl rfl ?_
   intro b26 w370 x371 hge26 hb26
   have hlt26 := hb26.lt
   change Box _ _ _ (encCo _) at hb26
   have z372 := x371.size
   replace hX := hX.ex x371
   replace hXL366 := Bel.ex hXL366 x371
   replace hs149 := hs149.ext x371
   replace hb18 := hb18.ext x371
   refine Rg_nil (W_seq ?_)
   apply W_drawC (β := False) (fun _ => 0) [peqC _, (postW (ListIs encCo 8 0 (fun M => M = (resolveO X Y (List.replicate (cflO X Y).length false)).1))), peqC _, peqC _, peqC _] [0, 0, 0, 0, 0] 5 mixed (by kernel_rfl) (by kernel_rfl) rfl ⟨peqC_stable _ _, (postW_stable (ListIs.keepS _ _ _ _)), peqC_stable _ _, peqC_stable _ _, peqC_stable _ _, trivial⟩ ?ob33 ?fin33
   case ob33 =>
    refine OblC_cons (fun w373 c375 x374 hc0376 hk377 => ?_) ?_
    ·replace x374 := RelG.ext0 x374
     have z378 := x374.size
     have hb18 := hb18.ext x374
     refine bindC_nil ?_
     exact OpC_v rfl (o_loadS Tryz.isAgg27 Tryz.sizeOf27 rfl hb18.at rfl)
    refine OblC_cons (fun w379 c381 x380 hc0382 hk383 => ?_) ?_
    ·replace x380 := RelG.ext0 x380
     have z384 := x380.size
     have hs149 := hs149.ext x380
     refine bindC_eq (bindC_nil ?_)
     exact OpC_W (S := ListIs encCo 8 0 (fun M => M = (resolveO X Y (List.replicate (cflO X Y).length false)).1)) rfl (o_call1 Tryz.call20 rfl) ((cops_ok a149 c149 _ ((resolveO X Y (List.replicate (cflO X Y).length false)).1) _ hs149 (by omega)).mono (fun v w2 ⟨h, x⟩ => ⟨⟨fun _ _ => Nat.zero_le _, _, h.rd encCo_ok, rfl⟩, x⟩))
    refine OblC_cons (fun w385 c387 x386 hc0388 hk389 => ?_) ?_
    ·replace x386 := RelG.ext0 x386
     have z390 := x386.size
     have hb26 := hb26.ext x386
     refine bindC_nil ?_
     exact OpC_v rfl (o_loadS Tryz.isAgg59 Tryz.sizeOf59 rfl hb26.at rfl)
    refine OblC_cons (fun w391 c393 x392 hc0394 hk395 => ?_) ?_
    ·replace x392 := RelG.ext0 x392
     have z396 := x392.size
     refine bindC_mem (fun v195 hv195 => ?_)
     obtain ⟨F195, hF195, -, M195, ⟨a195, c195, rfl, hs195⟩, rfl⟩ := hv195
     refine bindC_eq ?_
     refine bindC_mem (fun v195 hv195 => ?_)
     obtain ⟨F195, hF195, -, M195, ⟨a195, c195, rfl, hs195⟩, rfl⟩ := hv195
     refine bindC_nil ?_
     exact OpC_call rfl (o_call2 Tryz.call21 rfl rfl) (cocont_ok a195 c195 _ (resolveO X Y (List.replicate (cflO X Y).length false)).1 (Y.getD k coz) _ hs195)
    refine OblC_cons (fun w397 c399 x398 hc0400 hk401 => ?_) ?_
    ·replace x398 := RelG.ext0 x398
     have z402 := x398.size
     refine bindC_eq (bindC_nil ?_)
     exact OpC_v rfl (o_not rfl)
    exact OblC_nil
   case fin33 =>
    intro w403 c405 x404 hc0406
    replace x404 := RelG.ext0 x404
    have z407 := x404.size
    replace hX := hX.ex x404
    replace hXL366 := Bel.ex hXL366 x404
    refine bindC_eq ?_
    refine bindC_mem (fun v195 hv195 => ?_)
    obtain ⟨F195, hF195, -, M195, ⟨a195, c195, rfl, hs195⟩, rfl⟩ := hv195
    refine bindC_eq (bindC_eq (bindC_eq (bindC_nil (Rg_nil ?_))))
    refine W_cond_false (congrArg Value.bool (by have h : Y.getD k coz ∈ (resolveO X Y (List.replicate (cflO X Y).length false)).1 := hNl ▸ res_f hX0 hY0 (gm (show k < Y.length by omega)); rw [any_beq h]; rfl)) ?_
    refine W_skip (W_region ?_)
    refine Rr (o_add rfl rfl (by first | omega | (unfold I64; omega) | (simp; done) | (simp; omega) | (simp at *; omega))) ?_
    refine Rr (mvI rfl) ?_
    refine Rg_nil ?_
    refine ⟨k + 1, ⟨?_, trivial⟩, ?_, ⟨?_, hXL366⟩, ?_⟩
    ·first | rfl | (go_num) | (exact congrArg _ (by omega))
    ·repeat (first | exact oR _ _ | exact oM | refine oP rfl ?_ | refine oN ?_ | refine oL rfl ?_ | refine oX rfl ?_)
    ·omega
    ·omega
  have hk1 : ¬ k < Y.length := by have := of_decide_eq_false hc9; omega
  refine W_exit (exAt_hit (W_seq (W_region ?_)))
  refine Rr o_assignc ?_
  refine Rg_nil (W_ret ?_)
  refine ⟨_, res_tmp rfl rfl, ?_⟩
  refine ⟨congrArg Value.bool ?_, hX⟩
  all_goals (rfl)

end Go.Proofs.YtecjjgljkepajaaGreatDoor
