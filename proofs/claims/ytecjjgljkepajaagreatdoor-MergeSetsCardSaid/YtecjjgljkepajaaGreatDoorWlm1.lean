/- Walks, printed by program: each theorem says what a function of the translation returns. -/
import Derived.Test.YtecjjgljkepajaaGreatDoorWl51
namespace Go.Proofs.YtecjjgljkepajaaGreatDoor
open Go Go.Lx Go.RowKit
set_option maxRecDepth 100000
set_option linter.unusedVariables false
set_option linter.unusedSimpArgs false
set_option linter.unnecessarySimpa false
set_option maxHeartbeats 4000000 in
theorem law_MergeSets (w : World) (v0 : Value) (p : List UInt8) (hp0 : Rd encB 1 (Lt w.heap.size) w v0 p) (v1 : Value) (l : List RawC) (hl0 : Rd encRaw 6 (Lt w.heap.size) w v1 l) (v2 : Value) (m : List RawC) (hm0 : Rd encRaw 6 (Lt w.heap.size) w v2 m) : Ok Tryz.prog 3 #[v0, v1, v2] w fun v w' => v = .bool true ∧ Ext False w w' := by
 obtain ⟨ap, cpp, rfl, hp0⟩ := hp0; obtain ⟨ar, cr, rfl, hl0⟩ := hl0; obtain ⟨am, cm, rfl, hm0⟩ := hm0
 have hlp := hp0.len; have hll := hl0.len; have hlm := hm0.len
 replace hp0 := hp0.mono (F' := fun g => g < w.heap.size) (fun g h1 h2 => h1)
 replace hl0 := hl0.mono (F' := fun g => g < w.heap.size) (fun g h1 h2 => h1)
 replace hm0 := hm0.mono (F' := fun g => g < w.heap.size) (fun g h1 h2 => h1)
 refine Ok_of_W 60 Tryz.func3 rfl rfl rfl ?_
 have hX : Ext False w w := Bel.refl _ _
 refine W_seq (W_region ?_)
 refine Rr o_assignc ?_
 refine Rg_nil (W_seq (W_seq (W_region ?_)))
 refine Rg_enter rfl (o_call0 Tryz.call6) (Ok.mono (awake51_ok _) ?_)
 rintro _ w1 ⟨rfl, x2⟩
 have z3 := x2.size
 replace hX := hX.ex x2
 replace hp0 := hp0.ext x2
 replace hl0 := hl0.ext x2
 replace hm0 := hm0.ext x2
 refine Rr (o_not rfl) ?_
 refine Rg_nil ?_
 refine W_cond_false rfl ?_
 refine W_skip (W_seq (W_region ?_))
 refine Rr (mvS rfl) ?_
 refine Rr (mvS rfl) ?_
 refine Rr (mvS rfl) ?_
 refine Rg_enter rfl (o_call3 Tryz.call7 rfl rfl rfl) (Ok.mono (lsets_ok _ _ p hp0.trd _ l hl0.trd _ m hm0.trd) ?_)
 rintro _ w4 ⟨⟨a22, c22, b22, d22, a322, c322, a422, c422, X, Y, rfl, ⟨hX0, hY0, hXl, hYl⟩, hsa22, hsb22, hsc22, hsd22⟩, x5⟩
 have z6 := x5.size
 replace hX := hX.ex x5
 refine Rr (o_moveh (v := .tuple _) rfl) ?_
 refine Rr (o_extract rfl rfl) ?_
 refine Rr (o_extract rfl rfl) ?_
 refine Rr (o_extract rfl rfl) ?_
 refine Rr (o_extract rfl rfl) ?_
 refine Rr (o_extract rfl rfl) ?_
 refine Rg_newB rfl (o_alloc Tryz.zeroValue27) ?_
 intro b7 w7 x8 hge7 hb7
 have hlt7 := hb7.lt
 change Box _ _ _ ([.slice _ _ _]) at hb7
 have z9 := x8.size
 replace hX := hX.ex x8
 replace hsa22 := hsa22.ext x8
 replace hsb22 := hsb22.ext x8
 replace hsc22 := hsc22.ext x8
 replace hsd22 := hsd22.ext x8
 refine Rg_newB rfl (o_alloc Tryz.zeroValue27) ?_
 intro b8 w10 x11 hge8 hb8
 have hlt8 := hb8.lt
 change Box _ _ _ ([.slice _ _ _]) at hb8
 have z12 := x11.size
 replace hX := hX.ex x11
 replace hsa22 := hsa22.ext x11
 replace hsb22 := hsb22.ext x11
 replace hsc22 := hsc22.ext x11
 replace hsd22 := hsd22.ext x11
 replace hb7 := hb7.ext x11
 refine Rg_storeW (v := .agg _) rfl Tryz.sizeOf27 rfl rfl hb7 rfl rfl rfl ?_
 intro w13 c14 hb7
 change Box _ _ _ (wsS _ _ _) at hb7
 have z15 := Bel.size c14
 replace hX := Bel.out hX c14 (fun g h1 h2 => by first | exact h2 | omega)
 replace hsa22 := hsa22.keep c14 (fun g h1 h2 h3 => by omega)
 replace hsb22 := hsb22.keep c14 (fun g h1 h2 h3 => by omega)
 replace hsc22 := hsc22.keep c14 (fun g h1 h2 h3 => by omega)
 replace hsd22 := hsd22.keep c14 (fun g h1 h2 h3 => by omega)
 replace hb8 := hb8.keep c14 (fun h => by omega)
 refine Rg_storeW (v := .agg _) rfl Tryz.sizeOf27 rfl rfl hb8 rfl rfl rfl ?_
 intro w16 c17 hb8
 change Box _ _ _ (wsS _ _ _) at hb8
 have z18 := Bel.size c17
 replace hX := Bel.out hX c17 (fun g h1 h2 => by first | exact h2 | omega)
 replace hsa22 := hsa22.keep c17 (fun g h1 h2 h3 => by omega)
 replace hsb22 := hsb22.keep c17 (fun g h1 h2 h3 => by omega)
 replace hsc22 := hsc22.keep c17 (fun g h1 h2 h3 => by omega)
 replace hsd22 := hsd22.keep c17 (fun g h1 h2 h3 => by omega)
 replace hb7 := hb7.keep c17 (fun h => by omega)
 refine Rr (asS rfl) ?_
 refine Rr (asS rfl) ?_
 refine Rr (asB rfl) ?_
 refine Rg_nil (W_seq (W_region ?_))
 refine Rr (o_loadS Tryz.isAgg27 Tryz.sizeOf27 rfl hb7.at rfl) ?_
 refine Rr (o_loadS Tryz.isAgg27 Tryz.sizeOf27 rfl hb8.at rfl) ?_
 refine Rg_enter rfl (o_call2 Tryz.call8 rfl rfl) (Ok.mono (msets_ok a22 b22 c22 d22 _ _ X Y _ hsa22 hsb22 hX0 hY0 (by omega) (by omega)) ?_)
 rintro _ w19 ⟨⟨a31, c31, u31, rfl, hs31, hown31⟩, x20⟩
 have z21 := x20.size
 replace hX := hX.ex x20
 replace hsa22 := hsa22.ext x20
 replace hsb22 := hsb22.ext x20
 replace hsc22 := hsc22.ext x20
 replace hsd22 := hsd22.ext x20
 replace hb7 := hb7.ext x20
 replace hb8 := hb8.ext x20
 refine Rr (o_moveh (v := .tuple _) rfl) ?_
 obtain ⟨a31q, c31q, hv31q, hs31q⟩ := hown31.sl encCc_ok
 subst hv31q
 refine Rr (o_extract rfl rfl) ?_
 refine Rr (o_extract rfl rfl) ?_
 refine Rg_alst rfl rfl Tryz.zeroValue27 rfl Tryz.sizeOf27 (fun _ => rfl) rfl rfl ?_
 intro b12 w22 x23 hge12 hb12
 have hlt12 := hb12.lt
 change Box _ _ _ (wsS _ _ _) at hb12
 have z24 := x23.size
 replace hX := hX.ex x23
 replace hsa22 := hsa22.ext x23
 replace hsb22 := hsb22.ext x23
 replace hsc22 := hsc22.ext x23
 replace hsd22 := hsd22.ext x23
 replace hb7 := hb7.ext x23
 replace hb8 := hb8.ext x23
 replace hs31 := hs31.ext x23
 replace hs31q := hs31q.ext x23
 refine Rr (asS rfl) ?_
 refine Rg_nil (W_seq (W_region ?_))
 refine Rr (mvS rfl) ?_
 refine Rr (mvS rfl) ?_
 refine Rg_enter rfl (o_call2 Tryz.call9 rfl rfl) (Ok.mono (rsets_ok a322 a422 c322 c422 _ _ X Y _ hsc22 hsd22 (by omega) (by omega) hX0 hY0) ?_)
 rintro _ w25 ⟨⟨u37, z37, rfl, hown37, hownz37, hne37⟩, x26⟩
 have z27 := x26.size
 replace hX := hX.ex x26
 replace hsa22 := hsa22.ext x26
 replace hsb22 := hsb22.ext x26
 replace hsc22 := hsc22.ext x26
 replace hsd22 := hsd22.ext x26
 replace hb7 := hb7.ext x26
 replace hb8 := hb8.ext x26
 replace hs31 := hs31.ext x26
 replace hs31q := hs31q.ext x26
 replace hb12 := hb12.ext x26
 refine Rr (o_moveh (v := .tuple _) rfl) ?_
 obtain ⟨a37q, c37q, hv37q, hs37q⟩ := hownz37.sl encRc_ok
 subst hv37q
 refine Rr (o_extract rfl rfl) ?_
 refine Rr (o_extract rfl rfl) ?_
 refine Rr (o_assignh (v := u37) rfl) ?_
 refine Rr (asS rfl) ?_
 refine Rg_nil (W_seq (W_region ?_))
 refine Rr (mvB rfl) ?_
 refine Rr (mvB rfl) ?_
 refine Rg_on 1 41 rfl rfl ?_
 refine Rr (o_loadS Tryz.isAgg27 Tryz.sizeOf27 rfl hb12.at rfl) ?_
 refine Rg_on 1 41 rfl rfl ?_
 refine Rr (o_moveh (v := u37) rfl) ?_
 refine Rg_on 1 41 rfl rfl ?_
 refine Rg_enter rfl (o_call2 Tryz.call10 rfl rfl) (Ok.mono (lsame_ok a31 c31 _ (sortO (bothO X Y)) _ hs31 u37 (sortO (bothO X Y)) (hown37.trd encRo_ok) (by have := both_sl X Y; omega) (by have := both_sl X Y; omega) (both_kk hX0 hY0)) ?_)
 rintro _ w28 ⟨rfl, x29⟩
 have z30 := x29.size
 replace hX := hX.ex x29
 replace hsa22 := hsa22.ext x29
 replace hsb22 := hsb22.ext x29
 replace hsc22 := hsc22.ext x29
 replace hsd22 := hsd22.ext x29
 replace hb7 := hb7.ext x29
 replace hb8 := hb8.ext x29
 replace hs31q := hs31q.ext x29
 replace hs37q := hs37q.ext x29
 refine Rr (o_pickT (v := .bool _) rfl rfl) ?_
 refine Rr (mvB rfl) ?_
 refine Rg_on 6 46 rfl (congrArg Value.bool (beq_self_eq_true _)) ?_
 refine Rr (mvS rfl) ?_
 refine Rg_on 6 46 rfl (congrArg Value.bool (beq_self_eq_true _)) ?_
 refine Rr (mvS rfl) ?_
 refine Rg_on 6 46 rfl (congrArg Value.bool (beq_self_eq_true _)) ?_
 refine Rg_enter rfl (o_call2 Tryz.call11 rfl rfl) (Ok.mono (lsamec_ok _ _ _ _ _ _ (cflO X Y) (cflO X Y) _ hs31q hs37q (cfl_kr hX0 hY0)) ?_)
 rintro _ w31 ⟨rfl, x32⟩
 have z33 := x32.size
 replace hX := hX.ex x32
 replace hsa22 := hsa22.ext x32
 replace hsb22 := hsb22.ext x32
 replace hsc22 := hsc22.ext x32
 replace hsd22 := hsd22.ext x32
 replace hb7 := hb7.ext x32
 replace hb8 := hb8.ext x32
 refine Rr (o_pickT (v := .bool _) (congrArg Value.bool (beq_self_eq_true _)) rfl) ?_
 refine Rr (mvB rfl) ?_
 refine Rg_on 11 51 rfl (congrArg Value.bool (beq_self_eq_true _)) ?_
 refine Rr (o_loadS Tryz.isAgg27 Tryz.sizeOf27 rfl hb7.at rfl) ?_
 refine Rg_on 11 51 rfl (congrArg Value.bool (beq_self_eq_true _)) ?_
 refine Rr (o_loadS Tryz.isAgg27 Tryz.sizeOf27 rfl hb8.at rfl) ?_
 refine Rg_on 11 51 rfl (congrArg Value.bool (beq_self_eq_true _)) ?_
 refine Rg_enter rfl (o_call2 Tryz.call12 rfl rfl) (Ok.mono (mcomm_ok a22 b22 c22 d22 _ _ X Y _ hsa22 hsb22 hX0 hY0 (by omega) (by omega)) ?_)
 rintro _ w34 ⟨rfl, x35⟩
 have z36 := x35.size
 replace hX := hX.ex x35
 replace hsc22 := hsc22.ext x35
 replace hsd22 := hsd22.ext x35
 refine Rg_on 11 51 rfl (congrArg Value.bool (beq_self_eq_true _)) ?_
 refine Rr (mvS rfl) ?_
 refine Rg_on 11 51 rfl (congrArg Value.bool (beq_self_eq_true _)) ?_
 refine Rr (mvS rfl) ?_
 refine Rg_on 11 51 rfl (congrArg Value.bool (beq_self_eq_true _)) ?_
 refine Rg_enter rfl (o_call2 Tryz.call13 rfl rfl) (Ok.mono (rcomm_ok a322 a422 c322 c422 _ _ X Y _ hsc22 hsd22 (by omega) (by omega)) ?_)
 rintro _ w37 ⟨rfl, x38⟩
 have z39 := x38.size
 replace hX := hX.ex x38
 refine Rg_on 11 51 rfl (congrArg Value.bool (beq_self_eq_true _)) ?_
 refine Rr (o_beql Tryz.underlying4 rfl rfl) ?_
 refine Rr (o_pickT (v := .bool _) (congrArg Value.bool (beq_self_eq_true _)) rfl) ?_
 refine Rr (asB rfl) ?_
 refine Rg_nil (W_ret ?_)
 refine ⟨_, res_tmp rfl rfl, ?_⟩
 refine ⟨congrArg Value.bool ?_, hX⟩
 all_goals (rw [comm_eq hX0 hY0]; exact beq_self_eq_true _)

end Go.Proofs.YtecjjgljkepajaaGreatDoor
