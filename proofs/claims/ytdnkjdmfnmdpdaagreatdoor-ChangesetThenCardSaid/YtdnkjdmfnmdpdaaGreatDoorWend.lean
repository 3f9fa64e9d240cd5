/- Walks: what functions return. -/
import Derived.Test.YtdnkjdmfnmdpdaaGreatDoorTh
import Derived.Test.YtdnkjdmfnmdpdaaGreatDoorWref50
import Derived.Test.YtdnkjdmfnmdpdaaGreatDoorWmk24
import Derived.Test.YtdnkjdmfnmdpdaaGreatDoorWthg
set_option linter.unusedVariables false
set_option linter.unusedSimpArgs false
set_option linter.unnecessarySimpa false
namespace Go.Proofs.YtdnkjdmfnmdpdaaGreatDoor
open Go Go.Lx Go.RowKit Tryz
set_option maxRecDepth 100000
theorem rflip_ok (o : COp) (w : World) : Ok Tryz.prog 63 #[.agg (encRo o).toArray] w fun v w' => v = .agg (encRo (flipO o)).toArray ∧ Ext False w w' := by
 refine Ok_of_W 8 func63 rfl rfl rfl ?_
 have hX : Ext False w w := Bel.refl _ _
 refine W_seq (W_region ?_)
 refine Rg_newB rfl (o_box (v := .agg _) rfl) ?_
 intro b1 w1 x2 hge1 hb1
 have hlt1 := hb1.lt
 change Box _ _ _ (id _) at hb1
 have z3 := x2.size
 replace hX := hX.ex x2
 refine Rg_newB rfl (o_alloc zeroValue44) ?_
 intro b2 w4 x5 hge2 hb2
 have hlt2 := hb2.lt
 change Box _ _ _ ([.bool _, .int _ _, .int _ _, .int _ _, .int _ _, str _, str _, .bool _]) at hb2
 have z6 := x5.size
 replace hX := hX.ex x5
 replace hb1 := hb1.ext x5
 refine Rg_nil (W_seq (W_region ?_))
 refine Rr (o_fa underlying44 rfl sizeOf4 rfl) ?_
 refine Rr (o_load1 isAgg4 rfl (hb1.at.get 0 rfl)) ?_
 refine Rr (o_not rfl) ?_
 refine Rr (o_fa underlying44 rfl sizeOf4 rfl) ?_
 refine Rg_store (v := .bool _) rfl sizeOf4 rfl rfl hb1 rfl rfl rfl ?_
 intro w7 c8 hb1
 change Box _ _ _ ([.bool _, .int _ _, .int _ _, .int _ _, .int _ _, str _, str _, .bool _]) at hb1
 have z9 := Bel.size c8
 replace hX := Bel.out hX c8 om2
 replace hb2 := hb2.keep c8 om1
 refine Rg_nil (W_seq (W_region ?_))
 refine Rr (o_loadS isAgg44 sizeOf44 rfl hb1.at rfl) ?_
 refine Rg_storeW (v := .agg _) rfl sizeOf44 rfl rfl hb2 rfl rfl rfl ?_
 intro w10 c11 hb2
 change Box _ _ _ (id _) at hb2
 have z12 := Bel.size c11
 replace hX := Bel.out hX c11 om2
 refine Rg_nil (W_ret ?_)
 refine ⟨_, res_1 (v := .agg _) rfl (rv_cellS isAgg44 sizeOf44 rfl hb2.at rfl), ?_⟩
 exact ⟨rfl, hX⟩

theorem rin_ok (v0 : Value) (G0 : Nat → Prop) (l : List COp) (o : COp) (w : World) (hl : Rd encRo 8 G0 w v0 l) : Ok Tryz.prog 62 #[v0, .agg (encRo o).toArray] w fun v w' => v = .bool (decide (o ∈ l)) ∧ Ext False w w' := by
 obtain ⟨al, cl, rfl, hl⟩ := hl
 have ml := hl.len
 replace hl := hl.mono (F' := fun g => g < w.heap.size) (fun g h1 h2 => h1)
 refine Ok_of_W 17 func62 rfl rfl rfl ?_
 have hX : Ext False w w := Bel.refl _ _
 refine W_seq (W_region ?_)
 refine Rg_newB rfl (o_box (v := .agg _) rfl) ?_
 intro b3 w1 x2 hge3 hb3
 change Box _ _ _ (encRo _) at hb3
 replace hX := hX.ex x2
 replace hl := hl.ext x2
 refine Rr o_assignc ?_
 refine Rg_nil (W_seq (W_seq (W_region ?_)))
 refine Rr (mvS rfl) ?_
 refine Rr (o_llen underlying27 rfl) ?_
 refine Rr o_movec ?_
 refine Rg_nil (W_block ?_)
 refine W_for (α := Nat) [(4, 4), (6, 6), (9, 16)] (fun k => [(9, .int .i64 (k : Int))]) (fun k w' => (k ≤ l.length ∧ ∀ j, j < k → ¬ l.getD j coz = o) ∧ Ext False w1 w') (fun k => l.length - k) 0 ⟨rfl, trivial⟩ ⟨⟨Nat.zero_le _, fun j h => absurd h (Nat.not_lt_zero _)⟩, Bel.refl _ _⟩ ?_
 rintro k fb5 w4 ⟨⟨hk, hall⟩, hXL3⟩
 replace hX := hX.ex hXL3
 replace hl := hl.ext hXL3
 replace hb3 := hb3.ext hXL3
 refine W_seq (W_region ?_)
 refine Rr (o_lss rfl rfl) ?_
 refine Rg_nil (W_seq ?_)
 refine W_cond rfl (fun hc1 => ?_) (fun hc1 => ?_)
 ·have hk1 : k < l.length := by have := of_decide_eq_true hc1; omega
  refine W_skip (W_seq (W_block (W_seq (W_region ?_))))
  refine Rr (o_iaR underlying27 sizeOf44 hl rfl rfl omg) ?_
  refine Rr (o_ldRS isAgg44 sizeOf44 hl rfl (getE coz hk1)) ?_
  refine Rg_alst rfl rfl zeroValue44 rfl sizeOf44 (fun _ => rfl) rfl rfl ?_
  intro b6 w6 x7 hge6 hb6
  change Box _ _ _ (encRo _) at hb6
  replace hX := hX.ex x7
  replace hXL3 := Bel.ex hXL3 x7
  replace hb3 := hb3.ext x7
  refine Rg_nil (W_seq (W_region ?_))
  refine Rr (o_loadS isAgg44 sizeOf44 rfl hb6.at rfl) ?_
  refine Rr (o_loadS isAgg44 sizeOf44 rfl hb3.at rfl) ?_
  refine Rr (o_teql eq_ro rfl rfl) ?_
  refine Rg_nil ?_
  refine W_cond rfl (fun hc2 => ?_) (fun hc2 => ?_)
  ·have he : (l.getD k coz) = o := eq_of_beq hc2
   refine W_seq (W_region ?_)
   refine Rr o_assignc ?_
   refine Rg_nil (W_ret ?_)
   refine ⟨_, res_tmp rfl rfl, ?_⟩
   refine ⟨congrArg Value.bool ?_, hX⟩
   all_goals (exact (decide_eq_true (he ▸ gm hk1)).symm)
  have he : ¬ (l.getD k coz) = o := ne_of_beq_false hc2
  refine W_skip (W_region ?_)
  refine Rr (o_add rfl rfl omg) ?_
  refine Rr (mvI rfl) ?_
  refine Rg_nil ?_
  refine ⟨k + 1, ⟨sT, trivial⟩, oT, ⟨?_, hXL3⟩, ?_⟩
  ·exact ⟨by omega, fun j hj => (Nat.lt_succ_iff_lt_or_eq.1 hj).elim (hall j) (fun e => e ▸ he)⟩
  ·omega
 have hk1 : ¬ k < l.length := by have := of_decide_eq_false hc1; omega
 refine W_exit (exAt_hit (W_seq (W_region ?_)))
 refine Rr o_assignc ?_
 refine Rg_nil (W_ret ?_)
 refine ⟨_, res_tmp rfl rfl, ?_⟩
 refine ⟨congrArg Value.bool ?_, hX⟩
 all_goals (exact (decide_eq_false (not_mem_getD fun j hj => hall j (by omega))).symm)

theorem rfind_ok (v0 : Value) (G0 : Nat → Prop) (l : List COp) (κ : OKey) (b : Bool) (w : World) (hl : Rd encRo 8 G0 w v0 l) : Ok Tryz.prog 68 #[v0, .agg (encRk κ).toArray, .bool b] w fun v w' => v = .tuple #[.agg (encRo ((findO l κ b).getD coz)).toArray, .bool (findO l κ b).isSome] ∧ Ext False w w' := by
 obtain ⟨al, cl, rfl, hl⟩ := hl
 have ml := hl.len
 replace hl := hl.mono (F' := fun g => g < w.heap.size) (fun g h1 h2 => h1)
 refine Ok_of_W 29 func68 rfl rfl rfl ?_
 have hX : Ext False w w := Bel.refl _ _
 refine W_seq (W_region ?_)
 refine Rg_newB rfl (o_box (v := .agg _) rfl) ?_
 intro b4 w1 x2 hge4 hb4
 have hlt4 := hb4.lt
 change Box _ _ _ (encRk _) at hb4
 have z3 := x2.size
 replace hX := hX.ex x2
 replace hl := hl.ext x2
 refine Rg_newB rfl (o_alloc zeroValue44) ?_
 intro b6 w4 x5 hge6 hb6
 have hlt6 := hb6.lt
 change Box _ _ _ ([.bool _, .int _ _, .int _ _, .int _ _, .int _ _, str _, str _, .bool _]) at hb6
 have z6 := x5.size
 replace hX := hX.ex x5
 replace hl := hl.ext x5
 replace hb4 := hb4.ext x5
 refine Rr o_assignc ?_
 refine Rg_nil (W_seq (W_seq (W_region ?_)))
 refine Rr (mvS rfl) ?_
 refine Rr (o_llen underlying27 rfl) ?_
 refine Rr o_movec ?_
 refine Rg_nil (W_block ?_)
 refine W_for (α := Nat) [(7, 7), (9, 9), (12, 27)] (fun k => [(12, .int .i64 (k : Int))]) (fun k w' => (k ≤ l.length ∧ ∀ j, j < k → ((l.getD j coz).key == κ && (l.getD j coz).add == b) = false) ∧ Bel False (fun g => g = b6) w4 w' ∧ (Box w' b6 44 (encRo coz))) (fun k => l.length - k) 0 ⟨rfl, trivial⟩ ⟨⟨Nat.zero_le _, fun j h => absurd h (Nat.not_lt_zero _)⟩, Bel.refl _ _, hb6⟩ ?_
 rintro k fb9 w8 ⟨⟨hk, hall⟩, hXL7, hb6⟩
 have z10 := Bel.size hXL7
 replace hX := Bel.out hX hXL7 om2
 replace hl := hl.keep hXL7 om3
 replace hb4 := hb4.keep hXL7 om1
 refine W_seq (W_region ?_)
 refine Rr (o_lss rfl rfl) ?_
 refine Rg_nil (W_seq ?_)
 refine W_cond rfl (fun hc1 => ?_) (fun hc1 => ?_)
 ·have hk1 : k < l.length := by have := of_decide_eq_true hc1; omega
  refine W_skip (W_seq (W_block (W_seq (W_region ?_))))
  refine Rr (o_iaR underlying27 sizeOf44 hl rfl rfl omg) ?_
  refine Rr (o_ldRS isAgg44 sizeOf44 hl rfl (getE coz hk1)) ?_
  refine Rg_alst rfl rfl zeroValue44 rfl sizeOf44 (fun _ => rfl) rfl rfl ?_
  intro b9 w11 x12 hge9 hb9
  have hlt9 := hb9.lt
  change Box _ _ _ (encRo _) at hb9
  have z13 := x12.size
  replace hX := hX.ex x12
  replace hXL7 := Bel.ex hXL7 x12
  replace hb4 := hb4.ext x12
  replace hb6 := hb6.ext x12
  refine Rg_nil (W_seq ?_)
  apply W_draw (β := False) [peq _, peq _, peq _, peq _, peq _, peq _, peq _, peq _, peq _, peq _] 10 mixed (by kernel_rfl) rfl ⟨peq_stable _, peq_stable _, peq_stable _, peq_stable _, peq_stable _, peq_stable _, peq_stable _, peq_stable _, peq_stable _, peq_stable _, trivial⟩ ?ob4 ?fin4
  case ob4 =>
   refine OblL_cons (fun w14 x15 => ?_) ?_
   ·have z16 := x15.size
    have hb9 := hb9.ext x15
    refine bindP_nil ?_
    exact OpS_v rfl (o_loadS isAgg44 sizeOf44 rfl hb9.at rfl)
   refine OblL_cons (fun w17 x18 => ?_) ?_
   ·have z19 := x18.size
    refine bindP_eq (bindP_nil ?_)
    exact OpS_call rfl (o_call1 call15 rfl) (rkey_ok (l.getD k coz) _)
   refine OblL_cons (fun w20 x21 => ?_) ?_
   ·have z22 := x21.size
    have hb4 := hb4.ext x21
    refine bindP_nil ?_
    exact OpS_v rfl (o_loadS isAgg59 sizeOf59 rfl hb4.at rfl)
   refine OblL_cons (fun w23 x24 => ?_) ?_
   ·have z25 := x24.size
    refine bindP_eq (bindP_eq (bindP_nil ?_))
    exact OpS_v rfl (o_teql eq_rk rfl rfl)
   refine OblL_cons (fun w26 x27 => ?_) ?_
   ·have z28 := x27.size
    refine bindP_eq (bindP_eq (bindP_nil ?_))
    exact OpS_v rfl (mvB rfl)
   refine OblL_cons (fun w29 x30 => ?_) ?_
   ·have z31 := x30.size
    refine bindP_eq (bindP_nil ?_)
    exact OpS_may 4 20 rfl rfl (fun hg => (o_fa underlying44 rfl sizeOf4 rfl))
   refine OblL_cons (fun w32 x33 => ?_) ?_
   ·have z34 := x33.size
    have hb9 := hb9.ext x33
    refine bindP_eq (bindP_eq (bindP_nil ?_))
    exact OpS_may 4 20 rfl rfl (fun hg => (o_load1 isAgg4 (gsel (u := undef) hg) (hb9.at.get 0 rfl)))
   refine OblL_cons (fun w35 x36 => ?_) ?_
   ·have z37 := x36.size
    refine bindP_eq (bindP_nil ?_)
    exact OpS_may 4 20 rfl rfl (fun hg => (mvB rfl))
   refine OblL_cons (fun w38 x39 => ?_) ?_
   ·have z40 := x39.size
    refine bindP_eq (bindP_eq (bindP_eq (bindP_nil ?_)))
    exact OpS_may 4 20 rfl rfl (fun hg => (o_beql underlying4 (gsel (u := undef) hg) (gsel (u := undef) hg)))
   refine OblL_cons (fun w41 x42 => ?_) ?_
   ·have z43 := x42.size
    refine bindP_eq (bindP_eq (bindP_nil ?_))
    exact OpS_v rfl (o_and (u := undef) rfl rfl)
   exact OblL_nil
  case fin4 =>
   intro w44 x45
   have z46 := x45.size
   replace hX := hX.ex x45
   replace hXL7 := Bel.ex hXL7 x45
   replace hb6 := hb6.ext x45
   replace hb9 := hb9.ext x45
   refine bindP_eq (bindP_eq (bindP_eq (bindP_eq (bindP_eq (bindP_eq (bindP_eq (bindP_eq (bindP_eq ?_))))))))
   refine bindP_eq (bindP_nil (Rg_nil ?_))
   refine W_cond rfl (fun hc2 => ?_) (fun hc2 => ?_)
   ·have he : ((l.getD k coz).key == κ && (l.getD k coz).add == b) = true := hc2
    refine W_seq (W_region ?_)
    refine Rr (o_loadS isAgg44 sizeOf44 rfl hb9.at rfl) ?_
    refine Rg_storeW (v := .agg _) rfl sizeOf44 rfl rfl hb6 rfl rfl rfl ?_
    intro w47 c48 hb6
    change Box _ _ _ (encRo _) at hb6
    have z49 := Bel.size c48
    replace hX := Bel.out hX c48 om2
    replace hXL7 := Bel.out hXL7 c48 om2
    refine Rr o_assignc ?_
    refine Rg_nil (W_ret ?_)
    refine ⟨_, res_T (vs := [.agg _, .bool _]) rfl ⟨rv_cellS isAgg44 sizeOf44 rfl hb6.at rfl, rfl, trivial⟩ (by simp), ?_⟩
    have e0 : findO l κ b = some (l.getD k coz) := find_at hk1 hall he
    rw [e0]
    exact ⟨rfl, hX⟩
   have he : ((l.getD k coz).key == κ && (l.getD k coz).add == b) = false := hc2
   refine W_skip (W_region ?_)
   refine Rr (o_add rfl rfl omg) ?_
   refine Rr (mvI rfl) ?_
   refine Rg_nil ?_
   refine ⟨k + 1, ⟨sT, trivial⟩, oT, ⟨?_, hXL7, ?_⟩, ?_⟩
   ·exact ⟨by omega, fun j hj => (Nat.lt_succ_iff_lt_or_eq.1 hj).elim (hall j) (fun e => e ▸ he)⟩
   ·exact hb6
   ·omega
 have hk1 : ¬ k < l.length := by have := of_decide_eq_false hc1; omega
 refine W_exit (exAt_hit (W_seq (W_region ?_)))
 refine Rr (o_build (cells := encRo coz) (vs := []) rfl (by kernel_rfl)) ?_
 refine Rg_storeW (v := .agg _) rfl sizeOf44 rfl rfl hb6 rfl rfl rfl ?_
 intro w50 c51 hb6
 change Box _ _ _ (encRo _) at hb6
 have z52 := Bel.size c51
 replace hX := Bel.out hX c51 om2
 refine Rr o_assignc ?_
 refine Rg_nil (W_ret ?_)
 refine ⟨_, res_T (vs := [.agg _, .bool _]) rfl ⟨rv_cellS isAgg44 sizeOf44 rfl hb6.at rfl, rfl, trivial⟩ (by simp), ?_⟩
 have e0 : findO l κ b = none := find_not fun j hj => hall j (by omega)
 rw [e0]
 exact ⟨rfl, hX⟩

theorem rfits_ok (d : Int) (aU : Option Addr) (nU cU : Nat) (aR : Option Addr) (nR cR : Nat) (ad : W64) (aX : Option Addr) (nX cX : Nat) (aY : Option Addr) (nY cY : Nat) (aZ : Option Addr) (nZ cZ : Nat) (VL VM VG : Value) (v1 v2 : Value) (G1 G2 : Nat → Prop) (T X : List COp) (o : COp) (w : World) (ht : Rd encRo 8 G1 w v1 T) (hx : Rd encRo 8 G2 w v2 X) (ho : Vo o) : Ok Tryz.prog 61 #[.agg (stC d (.slice aU nU cU) (.slice aR nR cR) ad VL VM VG (.slice aX nX cX) (.slice aY nY cY) (.slice aZ nZ cZ)).toArray, v1, v2, .agg (encRo o).toArray] w fun v w' => (∃ e : Int, v = .int .i64 e) ∧ Ext False w w' := by
 obtain ⟨at1, ct1, rfl, ht⟩ := ht; obtain ⟨ax1, cx1, rfl, hx⟩ := hx
 have mt := ht.len; have mx := hx.len
 replace ht := ht.mono (F' := fun g => g < w.heap.size) (fun g h1 h2 => h1)
 replace hx := hx.mono (F' := fun g => g < w.heap.size) (fun g h1 h2 => h1)
 have hrg := ho.rng
 refine Ok_of_W 119 func61 rfl rfl rfl ?_
 have hX : Ext False w w := Bel.refl _ _
 refine W_seq (W_region ?_)
 refine Rg_newB rfl (o_box (v := .agg _) rfl) ?_
 intro b4 w1 x2 hge4 hb4
 have hlt4 := hb4.lt
 change Box _ _ _ (stC _ _ _ _ _ _ _ _ _ _) at hb4
 have z3 := x2.size
 replace hX := hX.ex x2
 replace ht := ht.ext x2
 replace hx := hx.ext x2
 refine Rg_newB rfl (o_box (v := .agg _) rfl) ?_
 intro b7 w4 x5 hge7 hb7
 have hlt7 := hb7.lt
 change Box _ _ _ (encRo _) at hb7
 have z6 := x5.size
 replace hX := hX.ex x5
 replace ht := ht.ext x5
 replace hx := hx.ext x5
 replace hb4 := hb4.ext x5
 refine Rr o_assignc ?_
 refine Rg_nil (W_seq (W_region ?_))
 refine Rr (o_fa underlying38 rfl sizeOf29 rfl) ?_
 refine Rr (o_load1 isAgg29 rfl (hb4.at.get 2 rfl)) ?_
 refine Rr (o_llen underlying29 rfl) ?_
 refine Rr (asI rfl) ?_
 refine Rg_nil (W_seq (W_seq (W_region ?_)))
 refine Rr (o_fa underlying44 rfl sizeOf3 rfl) ?_
 refine Rr (o_load1 isAgg3 rfl (hb7.at.get 1 rfl)) ?_
 refine Rr (o_eql rfl rfl) ?_
 refine Rr (mvB rfl) ?_
 refine Rg_may 3 18 rfl rfl rfl (fun hg => (o_fa underlying44 rfl sizeOf3 rfl)) ?_
 refine Rg_may 3 18 rfl rfl rfl (fun hg => (o_load1 isAgg3 (gsel (u := undef) hg) (hb7.at.get 2 rfl))) ?_
 refine Rg_may 3 18 rfl rfl rfl (fun hg => (o_fa underlying38 rfl sizeOf29 rfl)) ?_
 refine Rg_may 3 18 rfl rfl rfl (fun hg => (o_load1 isAgg29 (gsel (u := undef) hg) (hb4.at.get 1 rfl))) ?_
 refine Rg_may 3 18 rfl rfl rfl (fun hg => (o_llen underlying29 (gsel (u := undef) hg))) ?_
 refine Rg_may 3 18 rfl rfl rfl (fun hg => (o_gtr (gsel (u := undef) hg) (gsel (u := undef) hg))) ?_
 refine Rg_may 3 18 rfl rfl rfl (fun hg => (o_moveh (v := .bool _) (gsel (u := undef) hg))) ?_
 refine Rg_may2 10 25 rfl rfl rfl (fun hg => (o_fa underlying44 rfl sizeOf3 rfl)) ?_
 refine Rg_may2 10 25 rfl rfl rfl (fun hg => (o_load1 isAgg3 (gsel (u := undef) hg) (hb7.at.get 3 rfl))) ?_
 refine Rg_may2 10 25 rfl rfl rfl (fun hg => (mvI rfl)) ?_
 refine Rg_may2 10 25 rfl rfl rfl (fun hg => (o_gtr (gsel (u := undef) hg) (gsel (u := undef) hg))) ?_
 refine Rg_may 3 18 rfl rfl rfl (fun hg => (o_or (u := undef) (gsel (u := undef) hg) (gand (u := undef) hg))) ?_
 refine Rr (o_and (u := undef) rfl rfl) ?_
 refine Rr (mvB rfl) ?_
 refine Rg_may 17 32 rfl rfl rfl (fun hg => (o_fa underlying44 rfl sizeOf3 rfl)) ?_
 refine Rg_may 17 32 rfl rfl rfl (fun hg => (o_load1 isAgg3 (gsel (u := undef) hg) (hb7.at.get 1 rfl))) ?_
 refine Rg_may 17 32 rfl rfl rfl (fun hg => (o_eql (gsel (u := undef) hg) rfl)) ?_
 refine Rg_may 17 32 rfl rfl rfl (fun hg => (o_moveh (v := .bool _) (gsel (u := undef) hg))) ?_
 refine Rg_may2 21 36 rfl rfl rfl (fun hg => (o_fa underlying44 rfl sizeOf3 rfl)) ?_
 refine Rg_may2 21 36 rfl rfl rfl (fun hg => (o_load1 isAgg3 (gsel (u := undef) hg) (hb7.at.get 2 rfl))) ?_
 refine Rg_may2 21 36 rfl rfl rfl (fun hg => (mvI rfl)) ?_
 refine Rg_may2 21 36 rfl rfl rfl (fun hg => (o_gtr (gsel (u := undef) hg) (gsel (u := undef) hg))) ?_
 refine Rg_may 17 32 rfl rfl rfl (fun hg => (o_and (u := undef) (gsel (u := undef) hg) (gand (u := undef) hg))) ?_
 refine Rr (o_or (u := undef) rfl rfl) ?_
 refine Rr (mvB rfl) ?_
 refine Rg_may 28 43 rfl rfl rfl (fun hg => (o_fa underlying44 rfl sizeOf3 rfl)) ?_
 refine Rg_may 28 43 rfl rfl rfl (fun hg => (o_load1 isAgg3 (gsel (u := undef) hg) (hb7.at.get 1 rfl))) ?_
 refine Rg_may 28 43 rfl rfl rfl (fun hg => (o_eql (gsel (u := undef) hg) rfl)) ?_
 refine Rg_may 28 43 rfl rfl rfl (fun hg => (o_moveh (v := .bool _) (gsel (u := undef) hg))) ?_
 refine Rg_may2 32 47 rfl rfl rfl (fun hg => (o_fa underlying44 rfl sizeOf3 rfl)) ?_
 refine Rg_may2 32 47 rfl rfl rfl (fun hg => (o_load1 isAgg3 (gsel (u := undef) hg) (hb7.at.get 2 rfl))) ?_
 refine Rg_may2 32 47 rfl rfl rfl (fun hg => (mvI rfl)) ?_
 refine Rg_may2 32 47 rfl rfl rfl (fun hg => (o_gtr (gsel (u := undef) hg) (gsel (u := undef) hg))) ?_
 refine Rg_may2 32 47 rfl rfl rfl (fun hg => (o_moveh (v := .bool _) (gsel (u := undef) hg))) ?_
 refine Rg_may2 37 52 rfl rfl rfl (fun hg => (o_fa underlying44 rfl sizeOf3 rfl)) ?_
 refine Rg_may2 37 52 rfl rfl rfl (fun hg => (o_load1 isAgg3 (gsel (u := undef) hg) (hb7.at.get 3 rfl))) ?_
 refine Rg_may2 37 52 rfl rfl rfl (fun hg => (mvI rfl)) ?_
 refine Rg_may2 37 52 rfl rfl rfl (fun hg => (o_gtr (gsel (u := undef) hg) (gsel (u := undef) hg))) ?_
 refine Rg_may2 32 47 rfl rfl rfl (fun hg => (o_or (u := undef) (gsel (u := undef) hg) (gand (u := undef) hg))) ?_
 refine Rg_may 28 43 rfl rfl rfl (fun hg => (o_and (u := undef) (gsel (u := undef) hg) (gand (u := undef) hg))) ?_
 refine Rr (o_or (u := undef) rfl rfl) ?_
 refine Rg_nil ?_
 refine W_cond rfl (fun hc1 => ?_) (fun hc1 => ?_)
 ·refine W_seq (W_region ?_)
  refine Rr o_assignc ?_
  refine Rg_nil (W_ret ?_)
  refine ⟨_, res_tmp rfl rfl, ?_⟩
  exact ⟨⟨_, rfl⟩, hX⟩
 refine W_skip (W_seq (W_seq ?_))
 apply W_draw (β := False) [peq _, peq _, peq _, peq _, peq _, peq _, peq _, peq _, peq _, peq _, peq _, peq _, peq _, peq _, peq _, peq _, peq _, peq _, peq _, peq _, peq _, peq _, peq _, peq _, peq _, peq _, peq _, peq _, peq _, peq _, peq _, peq _] 32 mixed (by kernel_rfl) rfl ⟨peq_stable _, peq_stable _, peq_stable _, peq_stable _, peq_stable _, peq_stable _, peq_stable _, peq_stable _, peq_stable _, peq_stable _, peq_stable _, peq_stable _, peq_stable _, peq_stable _, peq_stable _, peq_stable _, peq_stable _, peq_stable _, peq_stable _, peq_stable _, peq_stable _, peq_stable _, peq_stable _, peq_stable _, peq_stable _, peq_stable _, peq_stable _, peq_stable _, peq_stable _, peq_stable _, peq_stable _, peq_stable _, trivial⟩ ?ob4 ?fin4
 case ob4 =>
  refine OblL_cons (fun w7 x8 => ?_) ?_
  ·have z9 := x8.size
   refine bindP_nil ?_
   exact OpS_v rfl (o_fa underlying44 rfl sizeOf3 rfl)
  refine OblL_cons (fun w10 x11 => ?_) ?_
  ·have z12 := x11.size
   have hb7 := hb7.ext x11
   refine bindP_eq (bindP_nil ?_)
   exact OpS_v rfl (o_load1 isAgg3 rfl (hb7.at.get 1 rfl))
  refine OblL_cons (fun w13 x14 => ?_) ?_
  ·have z15 := x14.size
   refine bindP_eq (bindP_nil ?_)
   exact OpS_v rfl (o_eql rfl rfl)
  refine OblL_cons (fun w16 x17 => ?_) ?_
  ·have z18 := x17.size
   refine bindP_eq (bindP_nil ?_)
   exact OpS_v rfl (mvB rfl)
  refine OblL_cons (fun w19 x20 => ?_) ?_
  ·have z21 := x20.size
   refine bindP_eq (bindP_nil ?_)
   exact OpS_may 3 63 rfl rfl (fun hg => (o_fa underlying38 rfl sizeOf30 rfl))
  refine OblL_cons (fun w22 x23 => ?_) ?_
  ·have z24 := x23.size
   have hb4 := hb4.ext x23
   refine bindP_eq (bindP_eq (bindP_nil ?_))
   exact OpS_may 3 63 rfl rfl (fun hg => (o_load1 isAgg30 (gsel (u := undef) hg) (hb4.at.get 3 rfl)))
  refine OblL_cons (fun w25 x26 => ?_) ?_
  ·have z27 := x26.size
   refine bindP_eq (bindP_nil ?_)
   exact OpS_may 3 63 rfl rfl (fun hg => (o_fa underlying44 rfl sizeOf3 rfl))
  refine OblL_cons (fun w28 x29 => ?_) ?_
  ·have z30 := x29.size
   have hb7 := hb7.ext x29
   refine bindP_eq (bindP_eq (bindP_nil ?_))
   exact OpS_may 3 63 rfl rfl (fun hg => (o_load1 isAgg3 (gsel (u := undef) hg) (hb7.at.get 2 rfl)))
  refine OblL_cons (fun w31 x32 => ?_) ?_
  ·have z33 := x32.size
   refine bindP_eq (bindP_eq (bindP_eq (bindP_nil ?_)))
   exact OpS_may 3 63 rfl rfl (fun hg => (o_shrI (gsel (u := undef) hg) (gsel (u := undef) hg) (ho.sh (c := 2) (by decide) hg)))
  refine OblL_cons (fun w34 x35 => ?_) ?_
  ·have z36 := x35.size
   refine bindP_eq (bindP_eq (bindP_nil ?_))
   exact OpS_may 3 63 rfl rfl (fun hg => (o_uremU (b := BitVec.ofNat 64 2) (gsel (u := undef) hg) rfl (by decide)))
  refine OblL_cons (fun w37 x38 => ?_) ?_
  ·have z39 := x38.size
   refine bindP_eq (bindP_eq (bindP_nil ?_))
   exact OpS_may 3 63 rfl rfl (fun hg => (o_eqU (b := BitVec.ofNat 64 1) (gsel (u := undef) hg) rfl))
  refine OblL_cons (fun w40 x41 => ?_) ?_
  ·have z42 := x41.size
   refine bindP_eq (bindP_eq (bindP_nil ?_))
   exact OpS_v rfl (o_and (u := undef) rfl rfl)
  refine OblL_cons (fun w43 x44 => ?_) ?_
  ·have z45 := x44.size
   refine bindP_eq (bindP_eq (bindP_nil ?_))
   exact OpS_v rfl (mvB rfl)
  refine OblL_cons (fun w46 x47 => ?_) ?_
  ·have z48 := x47.size
   refine bindP_eq (bindP_nil ?_)
   exact OpS_may 12 72 rfl rfl (fun hg => (o_fa underlying44 rfl sizeOf3 rfl))
  refine OblL_cons (fun w49 x50 => ?_) ?_
  ·have z51 := x50.size
   have hb7 := hb7.ext x50
   refine bindP_eq (bindP_eq (bindP_nil ?_))
   exact OpS_may 12 72 rfl rfl (fun hg => (o_load1 isAgg3 (gsel (u := undef) hg) (hb7.at.get 1 rfl)))
  refine OblL_cons (fun w52 x53 => ?_) ?_
  ·have z54 := x53.size
   refine bindP_eq (bindP_eq (bindP_nil ?_))
   exact OpS_may 12 72 rfl rfl (fun hg => (o_eql (gsel (u := undef) hg) rfl))
  refine OblL_cons (fun w55 x56 => ?_) ?_
  ·have z57 := x56.size
   refine bindP_eq (bindP_eq (bindP_eq (bindP_nil ?_)))
   exact OpS_may 12 72 rfl rfl (fun hg => (o_moveh (v := .bool _) (gsel (u := undef) hg)))
  refine OblL_cons (fun w58 x59 => ?_) ?_
  ·have z60 := x59.size
   refine bindP_eq (bindP_nil ?_)
   exact OpS_may2 16 76 rfl rfl (fun hg => (o_fa underlying38 rfl sizeOf30 rfl))
  refine OblL_cons (fun w61 x62 => ?_) ?_
  ·have z63 := x62.size
   have hb4 := hb4.ext x62
   refine bindP_eq (bindP_eq (bindP_nil ?_))
   exact OpS_may2 16 76 rfl rfl (fun hg => (o_load1 isAgg30 (gsel (u := undef) hg) (hb4.at.get 3 rfl)))
  refine OblL_cons (fun w64 x65 => ?_) ?_
  ·have z66 := x65.size
   refine bindP_eq (bindP_nil ?_)
   exact OpS_may2 16 76 rfl rfl (fun hg => (o_fa underlying44 rfl sizeOf3 rfl))
  refine OblL_cons (fun w67 x68 => ?_) ?_
  ·have z69 := x68.size
   have hb7 := hb7.ext x68
   refine bindP_eq (bindP_eq (bindP_nil ?_))
   exact OpS_may2 16 76 rfl rfl (fun hg => (o_load1 isAgg3 (gsel (u := undef) hg) (hb7.at.get 2 rfl)))
  refine OblL_cons (fun w70 x71 => ?_) ?_
  ·have z72 := x71.size
   refine bindP_eq (bindP_eq (bindP_eq (bindP_nil ?_)))
   exact OpS_may2 16 76 rfl rfl (fun hg => (o_shrI (gsel (u := undef) hg) (gsel (u := undef) hg) (ho.sh (c := 3) (by decide) (andR hg))))
  refine OblL_cons (fun w73 x74 => ?_) ?_
  ·have z75 := x74.size
   refine bindP_eq (bindP_eq (bindP_nil ?_))
   exact OpS_may2 16 76 rfl rfl (fun hg => (o_uremU (b := BitVec.ofNat 64 2) (gsel (u := undef) hg) rfl (by decide)))
  refine OblL_cons (fun w76 x77 => ?_) ?_
  ·have z78 := x77.size
   refine bindP_eq (bindP_nil ?_)
   exact OpS_may2 16 76 rfl rfl (fun hg => (o_fa underlying38 rfl sizeOf30 rfl))
  refine OblL_cons (fun w79 x80 => ?_) ?_
  ·have z81 := x80.size
   have hb4 := hb4.ext x80
   refine bindP_eq (bindP_eq (bindP_nil ?_))
   exact OpS_may2 16 76 rfl rfl (fun hg => (o_load1 isAgg30 (gsel (u := undef) hg) (hb4.at.get 3 rfl)))
  refine OblL_cons (fun w82 x83 => ?_) ?_
  ·have z84 := x83.size
   refine bindP_eq (bindP_nil ?_)
   exact OpS_may2 16 76 rfl rfl (fun hg => (o_fa underlying44 rfl sizeOf3 rfl))
  refine OblL_cons (fun w85 x86 => ?_) ?_
  ·have z87 := x86.size
   have hb7 := hb7.ext x86
   refine bindP_eq (bindP_eq (bindP_nil ?_))
   exact OpS_may2 16 76 rfl rfl (fun hg => (o_load1 isAgg3 (gsel (u := undef) hg) (hb7.at.get 3 rfl)))
  refine OblL_cons (fun w88 x89 => ?_) ?_
  ·have z90 := x89.size
   refine bindP_eq (bindP_eq (bindP_eq (bindP_nil ?_)))
   exact OpS_may2 16 76 rfl rfl (fun hg => (o_shrI (gsel (u := undef) hg) (gsel (u := undef) hg) (by omega)))
  refine OblL_cons (fun w91 x92 => ?_) ?_
  ·have z93 := x92.size
   refine bindP_eq (bindP_eq (bindP_nil ?_))
   exact OpS_may2 16 76 rfl rfl (fun hg => (o_uremU (b := BitVec.ofNat 64 2) (gsel (u := undef) hg) rfl (by decide)))
  refine OblL_cons (fun w94 x95 => ?_) ?_
  ·have z96 := x95.size
   refine bindP_eq (bindP_eq (bindP_eq (bindP_nil ?_)))
   exact OpS_may2 16 76 rfl rfl (fun hg => (o_neU (gsel (u := undef) hg) (gsel (u := undef) hg)))
  refine OblL_cons (fun w97 x98 => ?_) ?_
  ·have z99 := x98.size
   refine bindP_eq (bindP_eq (bindP_eq (bindP_nil ?_)))
   exact OpS_may 12 72 rfl rfl (fun hg => (o_and (u := undef) (gsel (u := undef) hg) (gand (u := undef) hg)))
  refine OblL_cons (fun w100 x101 => ?_) ?_
  ·have z102 := x101.size
   refine bindP_eq (bindP_eq (bindP_nil ?_))
   exact OpS_v rfl (o_or (u := undef) rfl rfl)
  exact OblL_nil
 case fin4 =>
  intro w103 x104
  have z105 := x104.size
  replace hX := hX.ex x104
  replace ht := ht.ext x104
  replace hx := hx.ext x104
  replace hb7 := hb7.ext x104
  refine bindP_eq (bindP_eq (bindP_eq (bindP_eq (bindP_eq (bindP_eq (bindP_eq (bindP_eq (bindP_eq ?_))))))))
  refine bindP_eq (bindP_eq (bindP_eq (bindP_eq (bindP_eq (bindP_eq (bindP_eq (bindP_eq (bindP_eq ?_))))))))
  refine bindP_eq (bindP_eq (bindP_eq (bindP_eq (bindP_eq (bindP_eq (bindP_eq (bindP_eq (bindP_eq ?_))))))))
  refine bindP_eq (bindP_eq (bindP_eq (bindP_eq (bindP_eq (bindP_nil (Rg_nil ?_))))))
  refine W_cond rfl (fun hc2 => ?_) (fun hc2 => ?_)
  ·refine W_seq (W_region ?_)
   refine Rr o_assignc ?_
   refine Rg_nil (W_ret ?_)
   refine ⟨_, res_tmp rfl rfl, ?_⟩
   exact ⟨⟨_, rfl⟩, hX⟩
  refine W_skip (W_seq (W_seq (W_region ?_)))
  refine Rr (o_fa underlying44 rfl sizeOf4 rfl) ?_
  refine Rr (o_load1 isAgg4 rfl (hb7.at.get 0 rfl)) ?_
  refine Rr (o_not rfl) ?_
  refine Rg_nil ?_
  refine W_cond rfl (fun hc3 => ?_) (fun hc3 => ?_)
  ·refine W_seq (W_seq (W_region ?_))
   refine Rr (mvS rfl) ?_
   refine Rr (o_loadS isAgg44 sizeOf44 rfl hb7.at rfl) ?_
   refine Rg_enter rfl (o_call1 call63 rfl) (Ok.mono (rflip_ok _ _) ?_)
   rintro _ w106 ⟨rfl, x107⟩
   have z108 := x107.size
   replace hX := hX.ex x107
   replace ht := ht.ext x107
   refine Rg_enter rfl (o_call2 call62 rfl rfl) (Ok.mono (rin_ok _ _ _ _ _ ht.trd) ?_)
   rintro _ w109 ⟨rfl, x110⟩
   have z111 := x110.size
   replace hX := hX.ex x110
   refine Rr (o_not rfl) ?_
   refine Rg_nil ?_
   refine W_cond rfl (fun hc4 => ?_) (fun hc4 => ?_)
   ·refine W_seq (W_region ?_)
    refine Rr o_assignc ?_
    refine Rg_nil (W_ret ?_)
    refine ⟨_, res_tmp rfl rfl, ?_⟩
    exact ⟨⟨_, rfl⟩, hX⟩
   refine W_skip (W_seq (W_region ?_))
   refine Rr o_assignc ?_
   refine Rg_nil (W_ret ?_)
   refine ⟨_, res_tmp rfl rfl, ?_⟩
   exact ⟨⟨_, rfl⟩, hX⟩
  refine W_skip (W_seq (W_seq (W_region ?_)))
  refine Rr (mvS rfl) ?_
  refine Rr (o_llen underlying27 rfl) ?_
  refine Rr o_movec ?_
  refine Rg_nil (W_block ?_)
  refine W_for (α := Nat) [(8, 8), (11, 11), (102, 118)] (fun k => [(102, .int .i64 (k : Int))]) (fun k w' => (k ≤ T.length) ∧ Ext False w103 w') (fun k => T.length - k) 0 ⟨rfl, trivial⟩ ⟨Nat.zero_le _, Bel.refl _ _⟩ ?_
  rintro k fb114 w113 ⟨hk, hXL112⟩
  have z115 := Bel.size hXL112
  replace hX := hX.ex hXL112
  replace ht := ht.ext hXL112
  replace hx := hx.ext hXL112
  replace hb7 := hb7.ext hXL112
  refine W_seq (W_region ?_)
  refine Rr (o_lss rfl rfl) ?_
  refine Rg_nil (W_seq ?_)
  refine W_cond rfl (fun hc5 => ?_) (fun hc5 => ?_)
  ·have hk1 : k < T.length := by have := of_decide_eq_true hc5; omega
   refine W_skip (W_seq (W_block (W_seq (W_region ?_))))
   refine Rr (o_iaR underlying27 sizeOf44 ht rfl rfl omg) ?_
   refine Rr (o_ldRS isAgg44 sizeOf44 ht rfl (getE coz hk1)) ?_
   refine Rg_alst rfl rfl zeroValue44 rfl sizeOf44 (fun _ => rfl) rfl rfl ?_
   intro b11 w116 x117 hge11 hb11
   have hlt11 := hb11.lt
   change Box _ _ _ (encRo _) at hb11
   have z118 := x117.size
   replace hX := hX.ex x117
   replace hXL112 := Bel.ex hXL112 x117
   replace hx := hx.ext x117
   replace hb7 := hb7.ext x117
   refine Rg_nil (W_seq ?_)
   apply W_draw (β := False) [peq _, peq _, peq _, peq _, peq _, peq _, peq _, peq _, peq _, peq _, peq _, peq _] 12 mixed (by kernel_rfl) rfl ⟨peq_stable _, peq_stable _, peq_stable _, peq_stable _, peq_stable _, peq_stable _, peq_stable _, peq_stable _, peq_stable _, peq_stable _, peq_stable _, peq_stable _, trivial⟩ ?ob13 ?fin13
   case ob13 =>
    refine OblL_cons (fun w119 x120 => ?_) ?_
    ·have z121 := x120.size
     have hb11 := hb11.ext x120
     refine bindP_nil ?_
     exact OpS_v rfl (o_loadS isAgg44 sizeOf44 rfl hb11.at rfl)
    refine OblL_cons (fun w122 x123 => ?_) ?_
    ·have z124 := x123.size
     refine bindP_eq (bindP_nil ?_)
     exact OpS_call rfl (o_call1 call15 rfl) (rkey_ok (T.getD k coz) _)
    refine OblL_cons (fun w125 x126 => ?_) ?_
    ·have z127 := x126.size
     have hb7 := hb7.ext x126
     refine bindP_nil ?_
     exact OpS_v rfl (o_loadS isAgg44 sizeOf44 rfl hb7.at rfl)
    refine OblL_cons (fun w128 x129 => ?_) ?_
    ·have z130 := x129.size
     refine bindP_eq (bindP_eq (bindP_nil ?_))
     exact OpS_call rfl (o_call1 call15 rfl) (rkey_ok o _)
    refine OblL_cons (fun w131 x132 => ?_) ?_
    ·have z133 := x132.size
     refine bindP_eq (bindP_eq (bindP_nil ?_))
     exact OpS_v rfl (o_teql eq_rk rfl rfl)
    refine OblL_cons (fun w134 x135 => ?_) ?_
    ·have z136 := x135.size
     refine bindP_eq (bindP_eq (bindP_nil ?_))
     exact OpS_v rfl (mvB rfl)
    refine OblL_cons (fun w137 x138 => ?_) ?_
    ·have z139 := x138.size
     refine bindP_eq (bindP_nil ?_)
     exact OpS_may 5 111 rfl rfl (fun hg => (mvS rfl))
    refine OblL_cons (fun w140 x141 => ?_) ?_
    ·have z142 := x141.size
     have hb11 := hb11.ext x141
     refine bindP_eq (bindP_nil ?_)
     exact OpS_may 5 111 rfl rfl (fun hg => (o_loadS isAgg44 sizeOf44 rfl hb11.at rfl))
    refine OblL_cons (fun w143 x144 => ?_) ?_
    ·have z145 := x144.size
     refine bindP_eq (bindP_eq (bindP_eq (bindP_nil ?_)))
     exact OpS_mayCall 5 111 rfl rfl (fun hg => ⟨(o_call1 call63 (gsel (u := undef) hg)), rflip_ok _ _⟩)
    refine OblL_cons (fun w146 x147 => ?_) ?_
    ·have z148 := x147.size
     have hx := hx.ext x147
     refine bindP_eq (bindP_eq (bindP_eq (bindP_eq (bindP_nil ?_))))
     exact OpS_mayCall 5 111 rfl rfl (fun hg => ⟨(o_call2 call62 (gsel (u := undef) hg) (gsel (u := undef) hg)), rin_ok _ _ _ _ _ hx.trd⟩)
    refine OblL_cons (fun w149 x150 => ?_) ?_
    ·have z151 := x150.size
     refine bindP_eq (bindP_eq (bindP_nil ?_))
     exact OpS_may 5 111 rfl rfl (fun hg => (o_not (gsel (u := undef) hg)))
    refine OblL_cons (fun w152 x153 => ?_) ?_
    ·have z154 := x153.size
     refine bindP_eq (bindP_eq (bindP_nil ?_))
     exact OpS_v rfl (o_and (u := undef) rfl rfl)
    exact OblL_nil
   case fin13 =>
    intro w155 x156
    have z157 := x156.size
    replace hX := hX.ex x156
    replace hXL112 := Bel.ex hXL112 x156
    refine bindP_eq (bindP_eq (bindP_eq (bindP_eq (bindP_eq (bindP_eq (bindP_eq (bindP_eq (bindP_eq ?_))))))))
    refine bindP_eq (bindP_eq (bindP_eq (bindP_nil (Rg_nil ?_))))
    refine W_cond rfl (fun hc6 => ?_) (fun hc6 => ?_)
    ·refine W_seq (W_region ?_)
     refine Rr o_assignc ?_
     refine Rg_nil (W_ret ?_)
     refine ⟨_, res_tmp rfl rfl, ?_⟩
     exact ⟨⟨_, rfl⟩, hX⟩
    refine W_skip (W_region ?_)
    refine Rr (o_add rfl rfl omg) ?_
    refine Rr (mvI rfl) ?_
    refine Rg_nil ?_
    refine ⟨k + 1, ⟨sT, trivial⟩, oT, ⟨?_, hXL112⟩, ?_⟩
    ·show k + 1 ≤ T.length; omega
    ·omega
  skip
  refine W_exit (exAt_hit (W_seq (W_region ?_)))
  refine Rr o_assignc ?_
  refine Rg_nil (W_ret ?_)
  refine ⟨_, res_tmp rfl rfl, ?_⟩
  exact ⟨⟨_, rfl⟩, hX⟩

theorem linkG_ok (v0 : Value) (B : Nat → Prop) (L : List Pr) (i j : Int) (w : World) (hs : Rd encPr 2 B w v0 L) (hl : L.length ≤ 100000) (hi : ∃ x : Fin 64, i = iv x) (hj : ∃ y : Fin 64, j = iv y) : Ok Tryz.prog 41 #[v0, .int .i64 i, .int .i64 j] w fun v w' => (∃ u M e, v = .tuple #[u, .int .i64 e] ∧ Rd encPr 2 (fun b => B b ∨ Fsh w w' b) w' u M ∧ M.length ≤ L.length + 1) ∧ Ext False w w' := by
 obtain ⟨x, rfl⟩ := hi; obtain ⟨y, rfl⟩ := hj
 obtain ⟨a, c, rfl, hs⟩ := hs
 have hlen := hs.len
 have hx1 : iv x < 64 := by unfold iv; have := x.isLt; omega
 have hy1 : iv y < 64 := by unfold iv; have := y.isLt; omega
 have hx0 : 0 ≤ iv x := by unfold iv; omega
 have hy0 : 0 ≤ iv y := by unfold iv; omega
 obtain ⟨J, hJ⟩ := JunIs.ex L y
 refine Ok_of_W 80 func41 rfl rfl rfl ?_
 have hX : Ext False w w := Bel.refl _ _
 refine W_seq (W_region ?_)
 refine Rr o_assignc ?_
 refine Rr o_assignc ?_
 refine Rg_nil (W_seq (W_seq (W_region ?_)))
 refine Rr (mvI rfl) ?_
 refine (Decidable.em (1 ≤ iv x)).elim (fun hp1 => ?_) (fun hp1 => ?_)
 ·refine Rg_enter rfl (o_call1 call90 rfl) (Ok.mono (r10role_ok _ _) ?_)
  rintro _ w1 ⟨rfl, x2⟩
  have z3 := x2.size
  replace hX := hX.ex x2
  replace hs := hs.ext x2
  refine Rr (o_not rfl) ?_
  refine Rr (mvB rfl) ?_
  refine (Decidable.em (1 ≤ iv y)).elim (fun hp2 => ?_) (fun hp2 => ?_)
  ·refine Rg_on 3 12 rfl (congrArg Value.bool (show _ = false from by simp; omega)) ?_
   refine Rr (mvI rfl) ?_
   refine Rg_on 3 12 rfl (congrArg Value.bool (show _ = false from by simp; omega)) ?_
   refine Rg_enter rfl (o_call1 call90 rfl) (Ok.mono (r10role_ok _ _) ?_)
   rintro _ w4 ⟨rfl, x5⟩
   have z6 := x5.size
   replace hX := hX.ex x5
   replace hs := hs.ext x5
   refine Rg_on 3 12 rfl (congrArg Value.bool (show _ = false from by simp; omega)) ?_
   refine Rr (o_not rfl) ?_
   refine Rr (o_pickF (v := .bool _) (congrArg Value.bool (show _ = false from by simp; omega)) rfl) ?_
   refine Rr (mvB rfl) ?_
   refine (Decidable.em (x = y)).elim (fun hxy => ?_) (fun hxy => ?_)
   ·refine Rg_on 8 17 rfl (congrArg Value.bool (show _ = false from by simp; omega)) ?_
    refine Rr (mvI rfl) ?_
    refine Rg_on 8 17 rfl (congrArg Value.bool (show _ = false from by simp; omega)) ?_
    refine Rr (mvI rfl) ?_
    refine Rg_on 8 17 rfl (congrArg Value.bool (show _ = false from by simp; omega)) ?_
    refine Rr (o_eql rfl rfl) ?_
    refine Rr (o_pickF (v := .bool _) (congrArg Value.bool (show _ = false from by simp; omega)) rfl) ?_
    refine Rg_nil ?_
    refine W_cond_true (congrArg Value.bool (by rw [iv_beq]; simpa using hxy)) ?_
    refine W_seq (W_region ?_)
    refine Rr (mvS rfl) ?_
    refine Rr (asS rfl) ?_
    refine Rr o_assignc ?_
    refine Rg_nil (W_ret ?_)
    refine ⟨_, res_tmp2 rfl rfl rfl, ?_⟩
    exact ⟨⟨_, L, 1, rfl, (hs.mono (fun g h1 h2 => Or.inl h2)).rd, by omega⟩, hX⟩
   refine Rg_on 8 17 rfl (congrArg Value.bool (show _ = false from by simp; omega)) ?_
   refine Rr (mvI rfl) ?_
   refine Rg_on 8 17 rfl (congrArg Value.bool (show _ = false from by simp; omega)) ?_
   refine Rr (mvI rfl) ?_
   refine Rg_on 8 17 rfl (congrArg Value.bool (show _ = false from by simp; omega)) ?_
   refine Rr (o_eql rfl rfl) ?_
   refine Rr (o_pickF (v := .bool _) (congrArg Value.bool (show _ = false from by simp; omega)) rfl) ?_
   refine Rg_nil ?_
   refine W_cond_false (congrArg Value.bool (by rw [iv_beq]; simpa using hxy)) ?_
   refine W_skip (W_seq (W_seq (W_region ?_)))
   refine Rr (mvS rfl) ?_
   refine Rr (mvI rfl) ?_
   refine Rr (mvI rfl) ?_
   refine Rg_enter rfl (o_call3 call91 rfl rfl rfl) (Ok.mono (r10has_ok _ _ _ _ x y _ hs) ?_)
   rintro _ w7 ⟨rfl, x8⟩
   have z9 := x8.size
   replace hX := hX.ex x8
   replace hs := hs.ext x8
   refine Rg_nil ?_
   refine W_cond rfl (fun hc3 => ?_) (fun hc3 => ?_)
   ·skip
    refine W_seq (W_region ?_)
    refine Rr (mvS rfl) ?_
    refine Rr (asS rfl) ?_
    refine Rr o_assignc ?_
    refine Rg_nil (W_ret ?_)
    refine ⟨_, res_tmp2 rfl rfl rfl, ?_⟩
    exact ⟨⟨_, L, 5, rfl, (hs.mono (fun g h1 h2 => Or.inl h2)).rd, by omega⟩, hX⟩
   skip
   refine W_skip (W_seq (W_seq (W_region ?_)))
   refine Rr (mvS rfl) ?_
   refine Rr (mvI rfl) ?_
   refine Rr (mvI rfl) ?_
   refine Rg_enter rfl (o_call3 call92 rfl rfl rfl) (Ok.mono (r10imp_ok _ _ _ _ y x J _ hs hJ (by unfold iv at hp2; omega) (by unfold iv at hp1; omega)) ?_)
   rintro _ w10 ⟨rfl, x11⟩
   have z12 := x11.size
   replace hX := hX.ex x11
   replace hs := hs.ext x11
   refine Rg_nil ?_
   refine W_cond rfl (fun hc4 => ?_) (fun hc4 => ?_)
   ·skip
    refine W_seq (W_region ?_)
    refine Rr (mvS rfl) ?_
    refine Rr (asS rfl) ?_
    refine Rr o_assignc ?_
    refine Rg_nil (W_ret ?_)
    refine ⟨_, res_tmp2 rfl rfl rfl, ?_⟩
    exact ⟨⟨_, L, 16, rfl, (hs.mono (fun g h1 h2 => Or.inl h2)).rd, by omega⟩, hX⟩
   skip
   refine W_skip (W_seq (W_region ?_))
   refine Rr o_assignc ?_
   refine Rg_nil (W_seq (W_block ?_))
   refine W_for (α := Nat) [(8, 8), (33, 65)] (fun k => [(8, .int .i64 (k : Int))]) (fun k w' => (k ≤ L.length) ∧ Ext False w10 w') (fun k => L.length - k) 0 ⟨rfl, trivial⟩ ⟨Nat.zero_le _, Bel.refl _ _⟩ ?_
   rintro k fb15 w14 ⟨hk, hXL13⟩
   have z16 := Bel.size hXL13
   replace hX := hX.ex hXL13
   replace hs := hs.ext hXL13
   refine W_seq (W_seq (W_region ?_))
   refine (Decidable.em (k < L.length)).elim (fun hf1 => ?_) (fun hf1 => ?_)
   ·refine Rr (mvI rfl) ?_
    refine (Decidable.em (iv (L.getD k pz0).1 < iv x)).elim (fun hf2 => ?_) (fun hf2 => ?_)
    ·refine Rr (mvS rfl) ?_
     refine Rr (o_llen underlying31 rfl) ?_
     refine Rr (o_lss rfl rfl) ?_
     refine Rr (mvB rfl) ?_
     refine Rg_on 4 37 rfl (congrArg Value.bool (decide_eq_true (by omega))) ?_
     refine Rr (mvS rfl) ?_
     refine Rg_on 4 37 rfl (congrArg Value.bool (decide_eq_true (by omega))) ?_
     refine Rr (mvI rfl) ?_
     refine Rg_on 4 37 rfl (congrArg Value.bool (decide_eq_true (by omega))) ?_
     refine Rr (o_iaR underlying31 sizeOf103 hs rfl rfl omg) ?_
     refine Rg_on 4 37 rfl (congrArg Value.bool (decide_eq_true (by omega))) ?_
     refine Rr (o_iaE (j := 0) underlying103 sizeOf3 hs rfl (getE pz0 (by omega)) rfl (by decide)) ?_
     refine Rg_on 4 37 rfl (congrArg Value.bool (decide_eq_true (by omega))) ?_
     refine Rr (o_ldE (j := 0) isAgg3 hs rfl (getE pz0 (by omega)) rfl) ?_
     refine Rg_on 4 37 rfl (congrArg Value.bool (decide_eq_true (by omega))) ?_
     refine Rr (mvI rfl) ?_
     refine Rg_on 4 37 rfl (congrArg Value.bool (decide_eq_true (by omega))) ?_
     refine Rr (o_lss rfl rfl) ?_
     refine Rg_on 4 37 rfl (congrArg Value.bool (decide_eq_true (by omega))) ?_
     refine Rr (mvB rfl) ?_
     refine Rg_off 12 45 rfl rfl (congrArg Value.bool (decide_eq_true hf2)) rfl rfl ?_
     refine Rg_off 12 45 rfl rfl (congrArg Value.bool (decide_eq_true hf2)) rfl rfl ?_
     refine Rg_off 12 45 rfl rfl (congrArg Value.bool (decide_eq_true hf2)) rfl rfl ?_
     refine Rg_off 12 45 rfl rfl (congrArg Value.bool (decide_eq_true hf2)) rfl rfl ?_
     refine Rg_off 12 45 rfl rfl (congrArg Value.bool (decide_eq_true hf2)) rfl rfl ?_
     refine Rg_off 12 45 rfl rfl (congrArg Value.bool (decide_eq_true hf2)) rfl rfl ?_
     refine Rg_off 12 45 rfl rfl (congrArg Value.bool (decide_eq_true hf2)) rfl rfl ?_
     refine Rg_off 12 45 rfl rfl (congrArg Value.bool (decide_eq_true hf2)) rfl rfl ?_
     refine Rg_offU 20 53 rfl rfl rfl rfl ?_
     refine Rg_offU 20 53 rfl rfl rfl rfl ?_
     refine Rg_offU 20 53 rfl rfl rfl rfl ?_
     refine Rg_offU 20 53 rfl rfl rfl rfl ?_
     refine Rg_offU 20 53 rfl rfl rfl rfl ?_
     refine Rg_offU 20 53 rfl rfl rfl rfl ?_
     refine Rg_offU 20 53 rfl rfl rfl rfl ?_
     refine Rg_off 12 45 rfl rfl (congrArg Value.bool (decide_eq_true hf2)) rfl rfl ?_
     refine Rg_on 4 37 rfl (congrArg Value.bool (decide_eq_true (by omega))) ?_
     refine Rr (o_pickT (v := .bool _) (congrArg Value.bool (decide_eq_true hf2)) rfl) ?_
     refine Rr (o_pickT (v := .bool _) (congrArg Value.bool (decide_eq_true (by omega))) rfl) ?_
     refine Rg_nil ?_
     refine W_cond_true rfl ?_
     refine W_skip (W_block (W_region ?_))
     refine Rr (mvI rfl) ?_
     refine Rr (o_add rfl rfl (by unfold I64; omega)) ?_
     refine Rr (asI rfl) ?_
     refine Rg_nil ?_
     refine ⟨k + 1, ⟨sT, trivial⟩, oT, ⟨?_, hXL13⟩, ?_⟩
     ·show k + 1 ≤ L.length; omega
     ·omega
    refine Rr (mvS rfl) ?_
    refine (Decidable.em (iv (L.getD k pz0).1 = iv x)).elim (fun hf3 => ?_) (fun hf3 => ?_)
    ·refine Rr (o_llen underlying31 rfl) ?_
     refine Rr (o_lss rfl rfl) ?_
     refine Rr (mvB rfl) ?_
     refine Rg_on 4 37 rfl (congrArg Value.bool (decide_eq_true (by omega))) ?_
     refine Rr (mvS rfl) ?_
     refine Rg_on 4 37 rfl (congrArg Value.bool (decide_eq_true (by omega))) ?_
     refine Rr (mvI rfl) ?_
     refine Rg_on 4 37 rfl (congrArg Value.bool (decide_eq_true (by omega))) ?_
     refine Rr (o_iaR underlying31 sizeOf103 hs rfl rfl omg) ?_
     refine Rg_on 4 37 rfl (congrArg Value.bool (decide_eq_true (by omega))) ?_
     refine Rr (o_iaE (j := 0) underlying103 sizeOf3 hs rfl (getE pz0 (by omega)) rfl (by decide)) ?_
     refine Rg_on 4 37 rfl (congrArg Value.bool (decide_eq_true (by omega))) ?_
     refine Rr (o_ldE (j := 0) isAgg3 hs rfl (getE pz0 (by omega)) rfl) ?_
     refine Rg_on 4 37 rfl (congrArg Value.bool (decide_eq_true (by omega))) ?_
     refine Rr (mvI rfl) ?_
     refine Rg_on 4 37 rfl (congrArg Value.bool (decide_eq_true (by omega))) ?_
     refine Rr (o_lss rfl rfl) ?_
     refine Rg_on 4 37 rfl (congrArg Value.bool (decide_eq_true (by omega))) ?_
     refine Rr (mvB rfl) ?_
     refine Rg_on 12 45 rfl (congrArg Value.bool (decide_eq_false hf2)) ?_
     refine Rr (mvS rfl) ?_
     refine Rg_on 12 45 rfl (congrArg Value.bool (decide_eq_false hf2)) ?_
     refine Rr (mvI rfl) ?_
     refine Rg_on 12 45 rfl (congrArg Value.bool (decide_eq_false hf2)) ?_
     refine Rr (o_iaR underlying31 sizeOf103 hs rfl rfl omg) ?_
     refine Rg_on 12 45 rfl (congrArg Value.bool (decide_eq_false hf2)) ?_
     refine Rr (o_iaE (j := 0) underlying103 sizeOf3 hs rfl (getE pz0 (by omega)) rfl (by decide)) ?_
     refine Rg_on 12 45 rfl (congrArg Value.bool (decide_eq_false hf2)) ?_
     refine Rr (o_ldE (j := 0) isAgg3 hs rfl (getE pz0 (by omega)) rfl) ?_
     refine Rg_on 12 45 rfl (congrArg Value.bool (decide_eq_false hf2)) ?_
     refine Rr (mvI rfl) ?_
     refine Rg_on 12 45 rfl (congrArg Value.bool (decide_eq_false hf2)) ?_
     refine Rr (o_eql rfl rfl) ?_
     refine Rg_on 12 45 rfl (congrArg Value.bool (decide_eq_false hf2)) ?_
     refine Rr (mvB rfl) ?_
     refine Rg_on 20 53 rfl (congrArg Value.bool (beq_iff_eq.2 hf3)) ?_
     refine Rr (mvS rfl) ?_
     refine Rg_on 20 53 rfl (congrArg Value.bool (beq_iff_eq.2 hf3)) ?_
     refine Rr (mvI rfl) ?_
     refine Rg_on 20 53 rfl (congrArg Value.bool (beq_iff_eq.2 hf3)) ?_
     refine Rr (o_iaR underlying31 sizeOf103 hs rfl rfl omg) ?_
     refine Rg_on 20 53 rfl (congrArg Value.bool (beq_iff_eq.2 hf3)) ?_
     refine Rr (o_iaE (j := 1) underlying103 sizeOf3 hs rfl (getE pz0 (by omega)) rfl (by decide)) ?_
     refine Rg_on 20 53 rfl (congrArg Value.bool (beq_iff_eq.2 hf3)) ?_
     refine Rr (o_ldE (j := 1) isAgg3 hs rfl (getE pz0 (by omega)) rfl) ?_
     refine Rg_on 20 53 rfl (congrArg Value.bool (beq_iff_eq.2 hf3)) ?_
     refine Rr (mvI rfl) ?_
     refine Rg_on 20 53 rfl (congrArg Value.bool (beq_iff_eq.2 hf3)) ?_
     refine Rr (o_lss rfl rfl) ?_
     refine Rg_on 12 45 rfl (congrArg Value.bool (decide_eq_false hf2)) ?_
     refine Rr (o_pickT (v := .bool _) (congrArg Value.bool (beq_iff_eq.2 hf3)) rfl) ?_
     refine Rg_on 4 37 rfl (congrArg Value.bool (decide_eq_true (by omega))) ?_
     refine Rr (o_pickF (v := .bool _) (congrArg Value.bool (decide_eq_false hf2)) rfl) ?_
     refine Rr (o_pickT (v := .bool _) (congrArg Value.bool (decide_eq_true (by omega))) rfl) ?_
     refine Rg_nil ?_
     refine W_cond rfl (fun hc6 => ?_) (fun hc6 => ?_)
     ·refine W_skip (W_block (W_region ?_))
      refine Rr (mvI rfl) ?_
      refine Rr (o_add rfl rfl (by unfold I64; omega)) ?_
      refine Rr (asI rfl) ?_
      refine Rg_nil ?_
      refine ⟨k + 1, ⟨sT, trivial⟩, oT, ⟨?_, hXL13⟩, ?_⟩
      ·show k + 1 ≤ L.length; omega
      ·omega
     refine W_exit (exAt_hit (W_seq ?_))
     obtain ⟨n1, hn1⟩ : ∃ n, n = w14.heap.size := ⟨_, rfl⟩
     apply W_drawC (β := False) (fun _ => 0) [(fun v w c => ∃ a, v = .slice a 0 0 ∧ postOwn encPr 2 103 1 ([] : List Pr) v w c), peqC _, peqC _, peqC _, (postOwn encPr 2 103 1 (L.take k)), peqC _, peqC _, peqC _, (fun v w c => ∃ a, v = .slice a 1 1 ∧ postOwn encPr 2 103 0 [(x, y)] v w c), (postOwn encPr 2 103 1 (L.take k ++ [(x, y)])), peqC _, peqC _, peqC _, (postOwn encPr 2 103 1 (L.take k ++ [(x, y)] ++ L.drop k))] [1, 0, 0, 0, 1, 0, 0, 0, 0, 1, 0, 0, 0, 1] 14 mixed (by kernel_rfl) (by kernel_rfl) rfl ⟨(postBs_stable), peqC_stable _ _, peqC_stable _ _, peqC_stable _ _, (postOwn_stable), peqC_stable _ _, peqC_stable _ _, peqC_stable _ _, (postBs_stable), (postOwn_stable), peqC_stable _ _, peqC_stable _ _, peqC_stable _ _, (postOwn_stable), trivial⟩ ?ob10 ?fin10
     case ob10 =>
      refine OblC_cons (fun w17 c19 x18 hc020 hk21 => ?_) ?_
      ·replace x18 := RelG.ext0 x18
       have z22 := x18.size
       refine bindC_nil ?_
       exact OpC_bs (vs := []) ([] : List Pr) encPr_ok el_pr rfl rfl trivial rfl rfl rfl rfl
      refine OblC_cons (fun w23 c25 x24 hc026 hk27 => ?_) ?_
      ·replace x24 := RelG.ext0 x24
       have z28 := x24.size
       refine bindC_nil ?_
       exact OpC_v rfl (mvS rfl)
      refine OblC_cons (fun w29 c31 x30 hc032 hk33 => ?_) ?_
      ·replace x30 := RelG.ext0 x30
       have z34 := x30.size
       refine bindC_nil ?_
       exact OpC_v rfl (mvI rfl)
      refine OblC_cons (fun w35 c37 x36 hc038 hk39 => ?_) ?_
      ·replace x36 := RelG.ext0 x36
       have z40 := x36.size
       have hs := hs.ext x36
       refine bindC_eq (bindC_eq (bindC_nil ?_))
       exact OpC_v rfl (o_slto (j := k) underlying31 sizeOf103 rfl rfl (by have := hs.le; omega))
      refine OblC_cons (fun w41 c43 x42 hc044 hk45 => ?_) ?_
      ·replace x42 := RelG.ext0 x42
       have z46 := x42.size
       have hs := hs.ext x42
       refine bindC_mem (fun v66 hv66 => ?_)
       refine bindC_eq (bindC_nil ?_)
       obtain ⟨a66, rfl, ho66⟩ := hv66
       exact OpC_app (l := []) (news := L.take k) (by decide) encPr_ok el_pr rfl rfl ho66 (hs.take k) (by rw [List.length_take]; omega) (by simp; omega)
      refine OblC_cons (fun w47 c49 x48 hc050 hk51 => ?_) ?_
      ·replace x48 := RelG.ext0 x48
       have z52 := x48.size
       refine bindC_nil ?_
       exact OpC_v rfl (mvI rfl)
      refine OblC_cons (fun w53 c55 x54 hc056 hk57 => ?_) ?_
      ·replace x54 := RelG.ext0 x54
       have z58 := x54.size
       refine bindC_nil ?_
       exact OpC_v rfl (mvI rfl)
      refine OblC_cons (fun w59 c61 x60 hc062 hk63 => ?_) ?_
      ·replace x60 := RelG.ext0 x60
       have z64 := x60.size
       refine bindC_eq (bindC_eq (bindC_nil ?_))
       exact OpC_v rfl (o_build (cells := encPr (x, y)) (vs := [(0, .int _ _), (1, .int _ _)]) rfl (by kernel_rfl))
      refine OblC_cons (fun w65 c67 x66 hc068 hk69 => ?_) ?_
      ·replace x66 := RelG.ext0 x66
       have z70 := x66.size
       refine bindC_eq (bindC_nil ?_)
       exact OpC_bs (vs := [.agg _]) [(x, y)] encPr_ok el_pr rfl rfl ⟨rfl, trivial⟩ rfl rfl rfl rfl
      refine OblC_cons (fun w71 c73 x72 hc074 hk75 => ?_) ?_
      ·replace x72 := RelG.ext0 x72
       have z76 := x72.size
       refine bindC_mem (fun v70 hv70 => ?_)
       refine bindC_mem (fun v74 hv74 => ?_)
       refine bindC_mem (fun v70 hv70 => ?_)
       refine bindC_nil ?_
       obtain ⟨a74, rfl, ho74⟩ := hv74
       exact OpC_app (by decide) encPr_ok el_pr rfl rfl hv70 (Own.slA ho74 encPr_ok) rfl (by simp; omega)
      refine OblC_cons (fun w77 c79 x78 hc080 hk81 => ?_) ?_
      ·replace x78 := RelG.ext0 x78
       have z82 := x78.size
       refine bindC_nil ?_
       exact OpC_v rfl (mvS rfl)
      refine OblC_cons (fun w83 c85 x84 hc086 hk87 => ?_) ?_
      ·replace x84 := RelG.ext0 x84
       have z88 := x84.size
       refine bindC_nil ?_
       exact OpC_v rfl (mvI rfl)
      refine OblC_cons (fun w89 c91 x90 hc092 hk93 => ?_) ?_
      ·replace x90 := RelG.ext0 x90
       have z94 := x90.size
       have hs := hs.ext x90
       refine bindC_eq (bindC_eq (bindC_nil ?_))
       exact OpC_v rfl (o_slfrom2 (j := k) underlying31 sizeOf103 rfl rfl hk hs.le)
      refine OblC_cons (fun w95 c97 x96 hc098 hk99 => ?_) ?_
      ·replace x96 := RelG.ext0 x96
       have z100 := x96.size
       have hs := hs.ext x96
       refine bindC_mem (fun v75 hv75 => ?_)
       refine bindC_eq ?_
       refine bindC_mem (fun v75 hv75 => ?_)
       refine bindC_nil ?_
       exact OpC_app (by decide) encPr_ok el_pr rfl rfl hv75 (hs.drop hk) (by simp) (by simp; omega)
      exact OblC_nil
     case fin10 =>
      intro w101 c103 x102 hc0104
      replace x102 := RelG.ext0 x102
      have z105 := x102.size
      replace hX := hX.ex x102
      refine bindC_mem (fun v66 _ => ?_)
      refine bindC_eq (bindC_eq (bindC_eq ?_))
      refine bindC_mem (fun v70 _ => ?_)
      refine bindC_eq (bindC_eq (bindC_eq ?_))
      refine bindC_mem (fun v74 hv74 => ?_)
      refine bindC_mem (fun v75 _ => ?_)
      refine bindC_eq (bindC_eq (bindC_eq ?_))
      refine bindC_mem (fun v79 hv79 => ?_)
      refine bindC_nil ?_
      change Own _ _ _ _ _ _ _ at hv79
      replace hv79 := Own.mono hv79 (D' := fun g => n1 ≤ g) (fun g h1 h2 => Nat.le_of_not_lt fun q => by have h := hc0104 g (by omega); rw [h2] at h; simp at h)
      refine Rr (o_assignh (v := v79) rfl) ?_
      refine Rr o_assignc ?_
      refine Rg_nil (W_ret ?_)
      refine ⟨_, res_tmp2 rfl rfl rfl, ?_⟩
      rw [List.append_assoc] at hv79
      exact ⟨⟨v79, _, 0, rfl, (hv79.mono (fun g h1 h2 => Or.inr ⟨by omega, h1⟩)).rd encPr_ok, by simp only [List.nil_append, List.length_append, List.length_take, List.length_drop, List.length_singleton]; omega⟩, hX⟩
    refine Rr (o_llen underlying31 rfl) ?_
    refine Rr (o_lss rfl rfl) ?_
    refine Rr (mvB rfl) ?_
    refine Rg_on 4 37 rfl (congrArg Value.bool (decide_eq_true (by omega))) ?_
    refine Rr (mvS rfl) ?_
    refine Rg_on 4 37 rfl (congrArg Value.bool (decide_eq_true (by omega))) ?_
    refine Rr (mvI rfl) ?_
    refine Rg_on 4 37 rfl (congrArg Value.bool (decide_eq_true (by omega))) ?_
    refine Rr (o_iaR underlying31 sizeOf103 hs rfl rfl omg) ?_
    refine Rg_on 4 37 rfl (congrArg Value.bool (decide_eq_true (by omega))) ?_
    refine Rr (o_iaE (j := 0) underlying103 sizeOf3 hs rfl (getE pz0 (by omega)) rfl (by decide)) ?_
    refine Rg_on 4 37 rfl (congrArg Value.bool (decide_eq_true (by omega))) ?_
    refine Rr (o_ldE (j := 0) isAgg3 hs rfl (getE pz0 (by omega)) rfl) ?_
    refine Rg_on 4 37 rfl (congrArg Value.bool (decide_eq_true (by omega))) ?_
    refine Rr (mvI rfl) ?_
    refine Rg_on 4 37 rfl (congrArg Value.bool (decide_eq_true (by omega))) ?_
    refine Rr (o_lss rfl rfl) ?_
    refine Rg_on 4 37 rfl (congrArg Value.bool (decide_eq_true (by omega))) ?_
    refine Rr (mvB rfl) ?_
    refine Rg_on 12 45 rfl (congrArg Value.bool (decide_eq_false hf2)) ?_
    refine Rr (mvS rfl) ?_
    refine Rg_on 12 45 rfl (congrArg Value.bool (decide_eq_false hf2)) ?_
    refine Rr (mvI rfl) ?_
    refine Rg_on 12 45 rfl (congrArg Value.bool (decide_eq_false hf2)) ?_
    refine Rr (o_iaR underlying31 sizeOf103 hs rfl rfl omg) ?_
    refine Rg_on 12 45 rfl (congrArg Value.bool (decide_eq_false hf2)) ?_
    refine Rr (o_iaE (j := 0) underlying103 sizeOf3 hs rfl (getE pz0 (by omega)) rfl (by decide)) ?_
    refine Rg_on 12 45 rfl (congrArg Value.bool (decide_eq_false hf2)) ?_
    refine Rr (o_ldE (j := 0) isAgg3 hs rfl (getE pz0 (by omega)) rfl) ?_
    refine Rg_on 12 45 rfl (congrArg Value.bool (decide_eq_false hf2)) ?_
    refine Rr (mvI rfl) ?_
    refine Rg_on 12 45 rfl (congrArg Value.bool (decide_eq_false hf2)) ?_
    refine Rr (o_eql rfl rfl) ?_
    refine Rg_on 12 45 rfl (congrArg Value.bool (decide_eq_false hf2)) ?_
    refine Rr (mvB rfl) ?_
    refine Rg_off 20 53 rfl rfl (congrArg Value.bool (beq_eq_false_iff_ne.2 hf3)) rfl rfl ?_
    refine Rg_off 20 53 rfl rfl (congrArg Value.bool (beq_eq_false_iff_ne.2 hf3)) rfl rfl ?_
    refine Rg_off 20 53 rfl rfl (congrArg Value.bool (beq_eq_false_iff_ne.2 hf3)) rfl rfl ?_
    refine Rg_off 20 53 rfl rfl (congrArg Value.bool (beq_eq_false_iff_ne.2 hf3)) rfl rfl ?_
    refine Rg_off 20 53 rfl rfl (congrArg Value.bool (beq_eq_false_iff_ne.2 hf3)) rfl rfl ?_
    refine Rg_off 20 53 rfl rfl (congrArg Value.bool (beq_eq_false_iff_ne.2 hf3)) rfl rfl ?_
    refine Rg_off 20 53 rfl rfl (congrArg Value.bool (beq_eq_false_iff_ne.2 hf3)) rfl rfl ?_
    refine Rg_on 12 45 rfl (congrArg Value.bool (decide_eq_false hf2)) ?_
    refine Rr (o_pickF (v := .bool _) (congrArg Value.bool (beq_eq_false_iff_ne.2 hf3)) rfl) ?_
    refine Rg_on 4 37 rfl (congrArg Value.bool (decide_eq_true (by omega))) ?_
    refine Rr (o_pickF (v := .bool _) (congrArg Value.bool (decide_eq_false hf2)) rfl) ?_
    refine Rr (o_pickT (v := .bool _) (congrArg Value.bool (decide_eq_true (by omega))) rfl) ?_
    refine Rg_nil ?_
    refine W_cond_false rfl ?_
    refine W_exit (exAt_hit (W_seq ?_))
    obtain ⟨n1, hn1⟩ : ∃ n, n = w14.heap.size := ⟨_, rfl⟩
    apply W_drawC (β := False) (fun _ => 0) [(fun v w c => ∃ a, v = .slice a 0 0 ∧ postOwn encPr 2 103 1 ([] : List Pr) v w c), peqC _, peqC _, peqC _, (postOwn encPr 2 103 1 (L.take k)), peqC _, peqC _, peqC _, (fun v w c => ∃ a, v = .slice a 1 1 ∧ postOwn encPr 2 103 0 [(x, y)] v w c), (postOwn encPr 2 103 1 (L.take k ++ [(x, y)])), peqC _, peqC _, peqC _, (postOwn encPr 2 103 1 (L.take k ++ [(x, y)] ++ L.drop k))] [1, 0, 0, 0, 1, 0, 0, 0, 0, 1, 0, 0, 0, 1] 14 mixed (by kernel_rfl) (by kernel_rfl) rfl ⟨(postBs_stable), peqC_stable _ _, peqC_stable _ _, peqC_stable _ _, (postOwn_stable), peqC_stable _ _, peqC_stable _ _, peqC_stable _ _, (postBs_stable), (postOwn_stable), peqC_stable _ _, peqC_stable _ _, peqC_stable _ _, (postOwn_stable), trivial⟩ ?ob10 ?fin10
    case ob10 =>
     refine OblC_cons (fun w106 c108 x107 hc0109 hk110 => ?_) ?_
     ·replace x107 := RelG.ext0 x107
      have z111 := x107.size
      refine bindC_nil ?_
      exact OpC_bs (vs := []) ([] : List Pr) encPr_ok el_pr rfl rfl trivial rfl rfl rfl rfl
     refine OblC_cons (fun w112 c114 x113 hc0115 hk116 => ?_) ?_
     ·replace x113 := RelG.ext0 x113
      have z117 := x113.size
      refine bindC_nil ?_
      exact OpC_v rfl (mvS rfl)
     refine OblC_cons (fun w118 c120 x119 hc0121 hk122 => ?_) ?_
     ·replace x119 := RelG.ext0 x119
      have z123 := x119.size
      refine bindC_nil ?_
      exact OpC_v rfl (mvI rfl)
     refine OblC_cons (fun w124 c126 x125 hc0127 hk128 => ?_) ?_
     ·replace x125 := RelG.ext0 x125
      have z129 := x125.size
      have hs := hs.ext x125
      refine bindC_eq (bindC_eq (bindC_nil ?_))
      exact OpC_v rfl (o_slto (j := k) underlying31 sizeOf103 rfl rfl (by have := hs.le; omega))
     refine OblC_cons (fun w130 c132 x131 hc0133 hk134 => ?_) ?_
     ·replace x131 := RelG.ext0 x131
      have z135 := x131.size
      have hs := hs.ext x131
      refine bindC_mem (fun v66 hv66 => ?_)
      refine bindC_eq (bindC_nil ?_)
      obtain ⟨a66, rfl, ho66⟩ := hv66
      exact OpC_app (l := []) (news := L.take k) (by decide) encPr_ok el_pr rfl rfl ho66 (hs.take k) (by rw [List.length_take]; omega) (by simp; omega)
     refine OblC_cons (fun w136 c138 x137 hc0139 hk140 => ?_) ?_
     ·replace x137 := RelG.ext0 x137
      have z141 := x137.size
      refine bindC_nil ?_
      exact OpC_v rfl (mvI rfl)
     refine OblC_cons (fun w142 c144 x143 hc0145 hk146 => ?_) ?_
     ·replace x143 := RelG.ext0 x143
      have z147 := x143.size
      refine bindC_nil ?_
      exact OpC_v rfl (mvI rfl)
     refine OblC_cons (fun w148 c150 x149 hc0151 hk152 => ?_) ?_
     ·replace x149 := RelG.ext0 x149
      have z153 := x149.size
      refine bindC_eq (bindC_eq (bindC_nil ?_))
      exact OpC_v rfl (o_build (cells := encPr (x, y)) (vs := [(0, .int _ _), (1, .int _ _)]) rfl (by kernel_rfl))
     refine OblC_cons (fun w154 c156 x155 hc0157 hk158 => ?_) ?_
     ·replace x155 := RelG.ext0 x155
      have z159 := x155.size
      refine bindC_eq (bindC_nil ?_)
      exact OpC_bs (vs := [.agg _]) [(x, y)] encPr_ok el_pr rfl rfl ⟨rfl, trivial⟩ rfl rfl rfl rfl
     refine OblC_cons (fun w160 c162 x161 hc0163 hk164 => ?_) ?_
     ·replace x161 := RelG.ext0 x161
      have z165 := x161.size
      refine bindC_mem (fun v70 hv70 => ?_)
      refine bindC_mem (fun v74 hv74 => ?_)
      refine bindC_mem (fun v70 hv70 => ?_)
      refine bindC_nil ?_
      obtain ⟨a74, rfl, ho74⟩ := hv74
      exact OpC_app (by decide) encPr_ok el_pr rfl rfl hv70 (Own.slA ho74 encPr_ok) rfl (by simp; omega)
     refine OblC_cons (fun w166 c168 x167 hc0169 hk170 => ?_) ?_
     ·replace x167 := RelG.ext0 x167
      have z171 := x167.size
      refine bindC_nil ?_
      exact OpC_v rfl (mvS rfl)
     refine OblC_cons (fun w172 c174 x173 hc0175 hk176 => ?_) ?_
     ·replace x173 := RelG.ext0 x173
      have z177 := x173.size
      refine bindC_nil ?_
      exact OpC_v rfl (mvI rfl)
     refine OblC_cons (fun w178 c180 x179 hc0181 hk182 => ?_) ?_
     ·replace x179 := RelG.ext0 x179
      have z183 := x179.size
      have hs := hs.ext x179
      refine bindC_eq (bindC_eq (bindC_nil ?_))
      exact OpC_v rfl (o_slfrom2 (j := k) underlying31 sizeOf103 rfl rfl hk hs.le)
     refine OblC_cons (fun w184 c186 x185 hc0187 hk188 => ?_) ?_
     ·replace x185 := RelG.ext0 x185
      have z189 := x185.size
      have hs := hs.ext x185
      refine bindC_mem (fun v75 hv75 => ?_)
      refine bindC_eq ?_
      refine bindC_mem (fun v75 hv75 => ?_)
      refine bindC_nil ?_
      exact OpC_app (by decide) encPr_ok el_pr rfl rfl hv75 (hs.drop hk) (by simp) (by simp; omega)
     exact OblC_nil
    case fin10 =>
     intro w190 c192 x191 hc0193
     replace x191 := RelG.ext0 x191
     have z194 := x191.size
     replace hX := hX.ex x191
     refine bindC_mem (fun v66 _ => ?_)
     refine bindC_eq (bindC_eq (bindC_eq ?_))
     refine bindC_mem (fun v70 _ => ?_)
     refine bindC_eq (bindC_eq (bindC_eq ?_))
     refine bindC_mem (fun v74 hv74 => ?_)
     refine bindC_mem (fun v75 _ => ?_)
     refine bindC_eq (bindC_eq (bindC_eq ?_))
     refine bindC_mem (fun v79 hv79 => ?_)
     refine bindC_nil ?_
     change Own _ _ _ _ _ _ _ at hv79
     replace hv79 := Own.mono hv79 (D' := fun g => n1 ≤ g) (fun g h1 h2 => Nat.le_of_not_lt fun q => by have h := hc0193 g (by omega); rw [h2] at h; simp at h)
     refine Rr (o_assignh (v := v79) rfl) ?_
     refine Rr o_assignc ?_
     refine Rg_nil (W_ret ?_)
     refine ⟨_, res_tmp2 rfl rfl rfl, ?_⟩
     rw [List.append_assoc] at hv79
     exact ⟨⟨v79, _, 0, rfl, (hv79.mono (fun g h1 h2 => Or.inr ⟨by omega, h1⟩)).rd encPr_ok, by simp only [List.nil_append, List.length_append, List.length_take, List.length_drop, List.length_singleton]; omega⟩, hX⟩
   refine Rr (mvI rfl) ?_
   refine Rr (mvS rfl) ?_
   refine Rr (o_llen underlying31 rfl) ?_
   refine Rr (o_lss rfl rfl) ?_
   refine Rr (mvB rfl) ?_
   refine Rg_off 4 37 rfl rfl (congrArg Value.bool (decide_eq_false (by omega))) rfl rfl ?_
   refine Rg_off 4 37 rfl rfl (congrArg Value.bool (decide_eq_false (by omega))) rfl rfl ?_
   refine Rg_off 4 37 rfl rfl (congrArg Value.bool (decide_eq_false (by omega))) rfl rfl ?_
   refine Rg_off 4 37 rfl rfl (congrArg Value.bool (decide_eq_false (by omega))) rfl rfl ?_
   refine Rg_off 4 37 rfl rfl (congrArg Value.bool (decide_eq_false (by omega))) rfl rfl ?_
   refine Rg_off 4 37 rfl rfl (congrArg Value.bool (decide_eq_false (by omega))) rfl rfl ?_
   refine Rg_off 4 37 rfl rfl (congrArg Value.bool (decide_eq_false (by omega))) rfl rfl ?_
   refine Rg_off 4 37 rfl rfl (congrArg Value.bool (decide_eq_false (by omega))) rfl rfl ?_
   refine Rg_offU 12 45 rfl rfl rfl rfl ?_
   refine Rg_offU 12 45 rfl rfl rfl rfl ?_
   refine Rg_offU 12 45 rfl rfl rfl rfl ?_
   refine Rg_offU 12 45 rfl rfl rfl rfl ?_
   refine Rg_offU 12 45 rfl rfl rfl rfl ?_
   refine Rg_offU 12 45 rfl rfl rfl rfl ?_
   refine Rg_offU 12 45 rfl rfl rfl rfl ?_
   refine Rg_offU 12 45 rfl rfl rfl rfl ?_
   refine Rg_offU 20 53 rfl rfl rfl rfl ?_
   refine Rg_offU 20 53 rfl rfl rfl rfl ?_
   refine Rg_offU 20 53 rfl rfl rfl rfl ?_
   refine Rg_offU 20 53 rfl rfl rfl rfl ?_
   refine Rg_offU 20 53 rfl rfl rfl rfl ?_
   refine Rg_offU 20 53 rfl rfl rfl rfl ?_
   refine Rg_offU 20 53 rfl rfl rfl rfl ?_
   refine Rg_offU 12 45 rfl rfl rfl rfl ?_
   refine Rg_off 4 37 rfl rfl (congrArg Value.bool (decide_eq_false (by omega))) rfl rfl ?_
   refine Rr (o_pickF (v := .bool _) (congrArg Value.bool (decide_eq_false (by omega))) rfl) ?_
   refine Rg_nil ?_
   refine W_cond_false rfl ?_
   refine W_exit (exAt_hit (W_seq ?_))
   obtain ⟨n1, hn1⟩ : ∃ n, n = w14.heap.size := ⟨_, rfl⟩
   apply W_drawC (β := False) (fun _ => 0) [(fun v w c => ∃ a, v = .slice a 0 0 ∧ postOwn encPr 2 103 1 ([] : List Pr) v w c), peqC _, peqC _, peqC _, (postOwn encPr 2 103 1 (L.take k)), peqC _, peqC _, peqC _, (fun v w c => ∃ a, v = .slice a 1 1 ∧ postOwn encPr 2 103 0 [(x, y)] v w c), (postOwn encPr 2 103 1 (L.take k ++ [(x, y)])), peqC _, peqC _, peqC _, (postOwn encPr 2 103 1 (L.take k ++ [(x, y)] ++ L.drop k))] [1, 0, 0, 0, 1, 0, 0, 0, 0, 1, 0, 0, 0, 1] 14 mixed (by kernel_rfl) (by kernel_rfl) rfl ⟨(postBs_stable), peqC_stable _ _, peqC_stable _ _, peqC_stable _ _, (postOwn_stable), peqC_stable _ _, peqC_stable _ _, peqC_stable _ _, (postBs_stable), (postOwn_stable), peqC_stable _ _, peqC_stable _ _, peqC_stable _ _, (postOwn_stable), trivial⟩ ?ob10 ?fin10
   case ob10 =>
    refine OblC_cons (fun w195 c197 x196 hc0198 hk199 => ?_) ?_
    ·replace x196 := RelG.ext0 x196
     have z200 := x196.size
     refine bindC_nil ?_
     exact OpC_bs (vs := []) ([] : List Pr) encPr_ok el_pr rfl rfl trivial rfl rfl rfl rfl
    refine OblC_cons (fun w201 c203 x202 hc0204 hk205 => ?_) ?_
    ·replace x202 := RelG.ext0 x202
     have z206 := x202.size
     refine bindC_nil ?_
     exact OpC_v rfl (mvS rfl)
    refine OblC_cons (fun w207 c209 x208 hc0210 hk211 => ?_) ?_
    ·replace x208 := RelG.ext0 x208
     have z212 := x208.size
     refine bindC_nil ?_
     exact OpC_v rfl (mvI rfl)
    refine OblC_cons (fun w213 c215 x214 hc0216 hk217 => ?_) ?_
    ·replace x214 := RelG.ext0 x214
     have z218 := x214.size
     have hs := hs.ext x214
     refine bindC_eq (bindC_eq (bindC_nil ?_))
     exact OpC_v rfl (o_slto (j := k) underlying31 sizeOf103 rfl rfl (by have := hs.le; omega))
    refine OblC_cons (fun w219 c221 x220 hc0222 hk223 => ?_) ?_
    ·replace x220 := RelG.ext0 x220
     have z224 := x220.size
     have hs := hs.ext x220
     refine bindC_mem (fun v66 hv66 => ?_)
     refine bindC_eq (bindC_nil ?_)
     obtain ⟨a66, rfl, ho66⟩ := hv66
     exact OpC_app (l := []) (news := L.take k) (by decide) encPr_ok el_pr rfl rfl ho66 (hs.take k) (by rw [List.length_take]; omega) (by simp; omega)
    refine OblC_cons (fun w225 c227 x226 hc0228 hk229 => ?_) ?_
    ·replace x226 := RelG.ext0 x226
     have z230 := x226.size
     refine bindC_nil ?_
     exact OpC_v rfl (mvI rfl)
    refine OblC_cons (fun w231 c233 x232 hc0234 hk235 => ?_) ?_
    ·replace x232 := RelG.ext0 x232
     have z236 := x232.size
     refine bindC_nil ?_
     exact OpC_v rfl (mvI rfl)
    refine OblC_cons (fun w237 c239 x238 hc0240 hk241 => ?_) ?_
    ·replace x238 := RelG.ext0 x238
     have z242 := x238.size
     refine bindC_eq (bindC_eq (bindC_nil ?_))
     exact OpC_v rfl (o_build (cells := encPr (x, y)) (vs := [(0, .int _ _), (1, .int _ _)]) rfl (by kernel_rfl))
    refine OblC_cons (fun w243 c245 x244 hc0246 hk247 => ?_) ?_
    ·replace x244 := RelG.ext0 x244
     have z248 := x244.size
     refine bindC_eq (bindC_nil ?_)
     exact OpC_bs (vs := [.agg _]) [(x, y)] encPr_ok el_pr rfl rfl ⟨rfl, trivial⟩ rfl rfl rfl rfl
    refine OblC_cons (fun w249 c251 x250 hc0252 hk253 => ?_) ?_
    ·replace x250 := RelG.ext0 x250
     have z254 := x250.size
     refine bindC_mem (fun v70 hv70 => ?_)
     refine bindC_mem (fun v74 hv74 => ?_)
     refine bindC_mem (fun v70 hv70 => ?_)
     refine bindC_nil ?_
     obtain ⟨a74, rfl, ho74⟩ := hv74
     exact OpC_app (by decide) encPr_ok el_pr rfl rfl hv70 (Own.slA ho74 encPr_ok) rfl (by simp; omega)
    refine OblC_cons (fun w255 c257 x256 hc0258 hk259 => ?_) ?_
    ·replace x256 := RelG.ext0 x256
     have z260 := x256.size
     refine bindC_nil ?_
     exact OpC_v rfl (mvS rfl)
    refine OblC_cons (fun w261 c263 x262 hc0264 hk265 => ?_) ?_
    ·replace x262 := RelG.ext0 x262
     have z266 := x262.size
     refine bindC_nil ?_
     exact OpC_v rfl (mvI rfl)
    refine OblC_cons (fun w267 c269 x268 hc0270 hk271 => ?_) ?_
    ·replace x268 := RelG.ext0 x268
     have z272 := x268.size
     have hs := hs.ext x268
     refine bindC_eq (bindC_eq (bindC_nil ?_))
     exact OpC_v rfl (o_slfrom2 (j := k) underlying31 sizeOf103 rfl rfl hk hs.le)
    refine OblC_cons (fun w273 c275 x274 hc0276 hk277 => ?_) ?_
    ·replace x274 := RelG.ext0 x274
     have z278 := x274.size
     have hs := hs.ext x274
     refine bindC_mem (fun v75 hv75 => ?_)
     refine bindC_eq ?_
     refine bindC_mem (fun v75 hv75 => ?_)
     refine bindC_nil ?_
     exact OpC_app (by decide) encPr_ok el_pr rfl rfl hv75 (hs.drop hk) (by simp) (by simp; omega)
    exact OblC_nil
   case fin10 =>
    intro w279 c281 x280 hc0282
    replace x280 := RelG.ext0 x280
    have z283 := x280.size
    replace hX := hX.ex x280
    refine bindC_mem (fun v66 _ => ?_)
    refine bindC_eq (bindC_eq (bindC_eq ?_))
    refine bindC_mem (fun v70 _ => ?_)
    refine bindC_eq (bindC_eq (bindC_eq ?_))
    refine bindC_mem (fun v74 hv74 => ?_)
    refine bindC_mem (fun v75 _ => ?_)
    refine bindC_eq (bindC_eq (bindC_eq ?_))
    refine bindC_mem (fun v79 hv79 => ?_)
    refine bindC_nil ?_
    change Own _ _ _ _ _ _ _ at hv79
    replace hv79 := Own.mono hv79 (D' := fun g => n1 ≤ g) (fun g h1 h2 => Nat.le_of_not_lt fun q => by have h := hc0282 g (by omega); rw [h2] at h; simp at h)
    refine Rr (o_assignh (v := v79) rfl) ?_
    refine Rr o_assignc ?_
    refine Rg_nil (W_ret ?_)
    refine ⟨_, res_tmp2 rfl rfl rfl, ?_⟩
    rw [List.append_assoc] at hv79
    exact ⟨⟨v79, _, 0, rfl, (hv79.mono (fun g h1 h2 => Or.inr ⟨by omega, h1⟩)).rd encPr_ok, by simp only [List.nil_append, List.length_append, List.length_take, List.length_drop, List.length_singleton]; omega⟩, hX⟩
  refine Rg_on 3 12 rfl (congrArg Value.bool (show _ = false from by simp; omega)) ?_
  refine Rr (mvI rfl) ?_
  refine Rg_on 3 12 rfl (congrArg Value.bool (show _ = false from by simp; omega)) ?_
  refine Rg_enter rfl (o_call1 call90 rfl) (Ok.mono (r10role_ok _ _) ?_)
  rintro _ w284 ⟨rfl, x285⟩
  have z286 := x285.size
  replace hX := hX.ex x285
  replace hs := hs.ext x285
  refine Rg_on 3 12 rfl (congrArg Value.bool (show _ = false from by simp; omega)) ?_
  refine Rr (o_not rfl) ?_
  refine Rr (o_pickF (v := .bool _) (congrArg Value.bool (show _ = false from by simp; omega)) rfl) ?_
  refine Rr (mvB rfl) ?_
  refine Rg_off 8 17 rfl rfl (congrArg Value.bool (show _ = true from by simp; omega)) rfl rfl ?_
  refine Rg_off 8 17 rfl rfl (congrArg Value.bool (show _ = true from by simp; omega)) rfl rfl ?_
  refine Rg_off 8 17 rfl rfl (congrArg Value.bool (show _ = true from by simp; omega)) rfl rfl ?_
  refine Rr (o_pickT (v := .bool _) (congrArg Value.bool (show _ = true from by simp; omega)) rfl) ?_
  refine Rg_nil ?_
  refine W_cond_true rfl ?_
  refine W_seq (W_region ?_)
  refine Rr (mvS rfl) ?_
  refine Rr (asS rfl) ?_
  refine Rr o_assignc ?_
  refine Rg_nil (W_ret ?_)
  refine ⟨_, res_tmp2 rfl rfl rfl, ?_⟩
  exact ⟨⟨_, L, 1, rfl, (hs.mono (fun g h1 h2 => Or.inl h2)).rd, by omega⟩, hX⟩
 refine Rg_enter rfl (o_call1 call90 rfl) (Ok.mono (r10role_ok _ _) ?_)
 rintro _ w287 ⟨rfl, x288⟩
 have z289 := x288.size
 replace hX := hX.ex x288
 replace hs := hs.ext x288
 refine Rr (o_not rfl) ?_
 refine Rr (mvB rfl) ?_
 refine Rg_off 3 12 rfl rfl (congrArg Value.bool (show _ = true from by simp; omega)) rfl rfl ?_
 refine Rg_off 3 12 rfl rfl (congrArg Value.bool (show _ = true from by simp; omega)) rfl rfl ?_
 refine Rg_off 3 12 rfl rfl (congrArg Value.bool (show _ = true from by simp; omega)) rfl rfl ?_
 refine Rr (o_pickT (v := .bool _) (congrArg Value.bool (show _ = true from by simp; omega)) rfl) ?_
 refine Rr (mvB rfl) ?_
 refine Rg_off 8 17 rfl rfl rfl rfl rfl ?_
 refine Rg_off 8 17 rfl rfl rfl rfl rfl ?_
 refine Rg_off 8 17 rfl rfl rfl rfl rfl ?_
 refine Rr (o_pickT (v := .bool _) rfl rfl) ?_
 refine Rg_nil ?_
 refine W_cond_true rfl ?_
 refine W_seq (W_region ?_)
 refine Rr (mvS rfl) ?_
 refine Rr (asS rfl) ?_
 refine Rr o_assignc ?_
 refine Rg_nil (W_ret ?_)
 refine ⟨_, res_tmp2 rfl rfl rfl, ?_⟩
 exact ⟨⟨_, L, 1, rfl, (hs.mono (fun g h1 h2 => Or.inl h2)).rd, by omega⟩, hX⟩

set_option maxHeartbeats 2000000 in
theorem rwith_ok (d : Int) (aU : Option Addr) (nU cU : Nat) (aR : Option Addr) (nR cR : Nat) (ad : W64) (aX : Option Addr) (nX cX : Nat) (aY : Option Addr) (nY cY : Nat) (aZ : Option Addr) (nZ cZ : Nat) (a1 : Option Addr) (n1 c1 : Nat) (a2 : Option Addr) (n2 c2 : Nat) (a3 : Option Addr) (n3 c3 : Nat) (v1 : Value) (G1 : Nat → Prop) (O : List COp) (w : World) (ho : Rd encRo 8 G1 w v1 O) (hO : ∀ o ∈ O, RoX o) (hn : O.length ≤ 50000) : Ok Tryz.prog 64 #[.agg (stC d (.slice aU nU cU) (.slice aR nR cR) ad (.slice a1 n1 c1) (.slice a2 n2 c2) (.slice a3 n3 c3) (.slice aX nX cX) (.slice aY nY cY) (.slice aZ nZ cZ)).toArray, v1] w fun v w' => StE O.length d (Fsh w w') w' v ∧ Ext False w w' := by
 obtain ⟨at1, ct1, rfl, ho⟩ := ho
 have mt := ho.len
 replace ho := ho.mono (F' := fun g => g < w.heap.size) (fun g h1 h2 => h1)
 refine Ok_of_W 70 func64 rfl rfl rfl ?_
 have hX : Ext False w w := Bel.refl _ _
 refine W_seq (W_region ?_)
 refine Rg_newB rfl (o_box (v := .agg _) rfl) ?_
 intro b2 w1 x2 hge2 hb2
 have hlt2 := hb2.lt
 change Box _ _ _ (stC _ _ _ _ _ _ _ _ _ _) at hb2
 have z3 := x2.size
 replace hX := hX.ex x2
 replace ho := ho.ext x2
 refine Rg_newB rfl (o_alloc zeroValue38) ?_
 intro b4 w4 x5 hge4 hb4
 have hlt4 := hb4.lt
 change Box _ _ _ ([.int _ _, .slice _ _ _, .slice _ _ _, .int _ _, .slice _ _ _, .slice _ _ _, .slice _ _ _, .slice _ _ _, .slice _ _ _, .slice _ _ _]) at hb4
 have z6 := x5.size
 replace hX := hX.ex x5
 replace ho := ho.ext x5
 replace hb2 := hb2.ext x5
 refine Rr o_assignc ?_
 refine Rg_nil (W_seq (W_region ?_))
 refine Rr (o_fa underlying38 rfl sizeOf32 rfl) ?_
 refine Rg_store (v := .slice _ _ _) rfl sizeOf32 rfl rfl hb2 rfl rfl rfl ?_
 intro w7 c8 hb2
 change Box _ _ _ ([.int _ _, .slice _ _ _, .slice _ _ _, .int _ _, .slice _ _ _, .slice _ _ _, .slice _ _ _, .slice _ _ _, .slice _ _ _, .slice _ _ _]) at hb2
 have z9 := Bel.size c8
 replace hX := Bel.out hX c8 om2
 replace ho := ho.keep c8 om3
 replace hb4 := hb4.keep c8 om1
 refine Rr (o_fa underlying38 rfl sizeOf33 rfl) ?_
 refine Rg_store (v := .slice _ _ _) rfl sizeOf33 rfl rfl hb2 rfl rfl rfl ?_
 intro w10 c11 hb2
 change Box _ _ _ ([.int _ _, .slice _ _ _, .slice _ _ _, .int _ _, .slice _ _ _, .slice _ _ _, .slice _ _ _, .slice _ _ _, .slice _ _ _, .slice _ _ _]) at hb2
 have z12 := Bel.size c11
 replace hX := Bel.out hX c11 om2
 replace ho := ho.keep c11 om3
 replace hb4 := hb4.keep c11 om1
 refine Rr (o_fa underlying38 rfl sizeOf31 rfl) ?_
 refine Rg_store (v := .slice _ _ _) rfl sizeOf31 rfl rfl hb2 rfl rfl rfl ?_
 intro w13 c14 hb2
 change Box _ _ _ ([.int _ _, .slice _ _ _, .slice _ _ _, .int _ _, .slice _ _ _, .slice _ _ _, .slice _ _ _, .slice _ _ _, .slice _ _ _, .slice _ _ _]) at hb2
 have z15 := Bel.size c14
 replace hX := Bel.out hX c14 om2
 replace ho := ho.keep c14 om3
 replace hb4 := hb4.keep c14 om1
 refine Rg_nil (W_seq (W_seq (W_region ?_)))
 obtain ⟨n4, hn4⟩ : ∃ n, n = w13.heap.size := ⟨_, rfl⟩
 refine Rr (mvS rfl) ?_
 refine Rr (o_llen underlying27 rfl) ?_
 refine Rr o_movec ?_
 refine Rg_nil (W_block ?_)
 refine W_for (α := Nat × Option Addr × Nat × List Pr × Option Addr × Nat × List E12 × Option Addr × Nat × List Ent) [(5, 5), (7, 9), (15, 68)] (fun q => [(15, .int .i64 (q.1 : Int))]) (fun q w' => (q.1 ≤ O.length ∧ q.2.2.2.1.length ≤ q.1 ∧ q.2.2.2.2.2.2.1.length ≤ q.1 ∧ OkG q.2.2.2.2.2.2.2.2.2) ∧ Bel False (fun g => g = b2 ∨ g = b4) w13 w' ∧ (Box w' b2 38 (stC d (.slice aU nU cU) (.slice aR nR cR) ad (.slice q.2.1 q.2.2.2.1.length q.2.2.1) (.slice q.2.2.2.2.1 q.2.2.2.2.2.2.1.length q.2.2.2.2.2.1) (.slice q.2.2.2.2.2.2.2.1 q.2.2.2.2.2.2.2.2.2.length q.2.2.2.2.2.2.2.2.1) (.slice aX nX cX) (.slice aY nY cY) (.slice aZ nZ cZ)) ∧ Box w' b4 38 (stC 0 (.slice none 0 0) (.slice none 0 0) 0#64 (.slice none 0 0) (.slice none 0 0) (.slice none 0 0) (.slice none 0 0) (.slice none 0 0) (.slice none 0 0)) ∧ Sl encPr 2 (fun g => n4 ≤ g) w' q.2.1 q.2.2.1 q.2.2.2.1 ∧ Sl encA12 3 (fun g => n4 ≤ g) w' q.2.2.2.2.1 q.2.2.2.2.2.1 q.2.2.2.2.2.2.1 ∧ Sl encE 4 (fun g => n4 ≤ g) w' q.2.2.2.2.2.2.2.1 q.2.2.2.2.2.2.2.2.1 q.2.2.2.2.2.2.2.2.2)) (fun q => O.length - q.1) (0, none, 0, [], none, 0, [], none, 0, []) ⟨rfl, trivial⟩ ⟨⟨Nat.zero_le _, Nat.le_refl _, Nat.le_refl _, OkG.nil⟩, Bel.refl _ _, ⟨hb2, hb4, Sl.none, Sl.none, Sl.none⟩⟩ ?_
 rintro ⟨k, aL, cL, L, aM, cM, M, aG, cG, G⟩ fb18 w17 ⟨⟨hk, hLl, hMl, hGk⟩, hXL16, ⟨hb2, hb4, hL, hM, hG⟩⟩
 dsimp only at *
 have z19 := Bel.size hXL16
 replace hX := Bel.out hX hXL16 om2
 replace ho := ho.keep hXL16 om3
 refine W_seq (W_region ?_)
 refine Rr (o_lss rfl rfl) ?_
 refine Rg_nil (W_seq ?_)
 refine W_cond rfl (fun hc1 => ?_) (fun hc1 => ?_)
 ·have hk1 : k < O.length := by have := of_decide_eq_true hc1; omega
  refine W_skip (W_seq (W_block (W_seq (W_region ?_))))
  refine Rr (o_iaR underlying27 sizeOf44 ho rfl rfl omg) ?_
  refine Rr (o_ldRS isAgg44 sizeOf44 ho rfl (getE coz hk1)) ?_
  refine Rg_alst rfl rfl zeroValue44 rfl sizeOf44 (fun _ => rfl) rfl rfl ?_
  intro b7 w20 x21 hge7 hb7
  have hlt7 := hb7.lt
  change Box _ _ _ (encRo _) at hb7
  have z22 := x21.size
  replace hX := hX.ex x21
  replace hXL16 := Bel.ex hXL16 x21
  replace hb2 := hb2.ext x21
  replace hb4 := hb4.ext x21
  replace hL := hL.ext x21
  replace hM := hM.ext x21
  replace hG := hG.ext x21
  refine Rg_nil (W_seq (W_region ?_))
  obtain ⟨o, ho9⟩ : ∃ o, o = (O.getD k coz) := ⟨_, rfl⟩
  rw [← ho9] at hb7
  have hox : RoX o := hO o (ho9 ▸ gm hk1)
  refine Rr (o_fa underlying44 rfl sizeOf3 rfl) ?_
  refine Rr (o_load1 isAgg3 rfl (hb7.at.get 1 rfl)) ?_
  refine Rg_nil (W_block (W_seq (W_region ?_)))
  refine Rr (o_eql rfl rfl) ?_
  refine Rr (asB rfl) ?_
  refine Rg_nil ?_
  refine W_cond rfl (fun hc2 => ?_) (fun hc2 => ?_)
  ·skip
   refine W_region ?_
   refine Rr (o_fa underlying38 rfl sizeOf32 rfl) ?_
   refine Rr (o_load1 isAgg32 rfl (hb2.at.get 5 rfl)) ?_
   refine Rr (o_fa underlying44 rfl sizeOf3 rfl) ?_
   refine Rr (o_load1 isAgg3 rfl (hb7.at.get 2 rfl)) ?_
   refine Rr (o_fa underlying44 rfl sizeOf3 rfl) ?_
   refine Rr (o_load1 isAgg3 rfl (hb7.at.get 3 rfl)) ?_
   refine Rr (o_fa underlying44 rfl sizeOf3 rfl) ?_
   refine Rr (o_load1 isAgg3 rfl (hb7.at.get 4 rfl)) ?_
   refine Rr (o_build (cells := encA12 ⟨o.a, o.b, o.u⟩) (vs := [(0, .int _ _), (1, .int _ _), (2, .int _ _)]) rfl (by kernel_rfl)) ?_
   refine Rg_enter rfl (o_call2 call42 rfl rfl) (Ok.mono (assign_ok aM cM _ M ⟨o.a, o.b, o.u⟩ _ hM (by omega)) ?_)
   rintro _ w23 ⟨⟨a33, c33, e33, M33, rfl, hr33, hl33⟩, x24⟩
   have z25 := x24.size
   replace hX := hX.ex x24
   replace hXL16 := Bel.ex hXL16 x24
   replace hb2 := hb2.ext x24
   replace hb4 := hb4.ext x24
   replace hL := hL.ext x24
   replace hG := hG.ext x24
   replace hr33 := hr33.mono (F' := fun g => n4 ≤ g) (fun g h1 h2 => by have := h2.1; omega)
   refine Rr (o_moveh (v := .tuple _) rfl) ?_
   refine Rr (o_extract rfl rfl) ?_
   refine Rr (o_extract rfl rfl) ?_
   refine Rr (o_fa underlying38 rfl sizeOf32 rfl) ?_
   refine Rg_store (v := .slice _ _ _) rfl sizeOf32 rfl rfl hb2 rfl rfl rfl ?_
   intro w26 c27 hb2
   change Box _ _ _ ([.int _ _, .slice _ _ _, .slice _ _ _, .int _ _, .slice _ _ _, .slice _ _ _, .slice _ _ _, .slice _ _ _, .slice _ _ _, .slice _ _ _]) at hb2
   have z28 := Bel.size c27
   replace hX := Bel.out hX c27 om2
   replace hXL16 := Bel.out hXL16 c27 om2
   replace hb4 := hb4.keep c27 om1
   replace hL := hL.keep c27 om3
   replace hG := hG.keep c27 om3
   replace hr33 := hr33.keep c27 om3
   refine Rg_nil (W_region ?_)
   refine Rr (o_add rfl rfl omg) ?_
   refine Rr (mvI rfl) ?_
   refine Rg_nil ?_
   refine ⟨(k + 1, aL, cL, L, a33, c33, M33, aG, cG, G), ⟨sT, trivial⟩, oT, ⟨?_, hXL16, ?_⟩, ?_⟩
   ·exact ⟨by show k + 1 ≤ O.length; omega, by have := hLl; simp only; omega, by have := hl33; simp only; omega, hGk⟩
   ·exact ⟨hb2, hb4, hL, hr33, hG⟩
   ·show O.length - (k + 1) < O.length - k; omega
  skip
  refine W_seq (W_region ?_)
  refine Rr (o_eql rfl rfl) ?_
  refine Rr (asB rfl) ?_
  refine Rg_nil ?_
  refine W_cond rfl (fun hc3 => ?_) (fun hc3 => ?_)
  ·skip
   refine W_region ?_
   refine Rr (o_fa underlying38 rfl sizeOf33 rfl) ?_
   refine Rr (o_load1 isAgg33 rfl (hb2.at.get 6 rfl)) ?_
   refine Rr (o_fa underlying44 rfl sizeOf3 rfl) ?_
   refine Rr (o_load1 isAgg3 rfl (hb7.at.get 2 rfl)) ?_
   refine Rr (o_fa underlying44 rfl sizeOf42 rfl) ?_
   refine Rr (o_loadS isAgg42 sizeOf42 rfl (hb7.at.sub 5 3) rfl) ?_
   refine Rr (o_build (cells := encE ⟨o.a, o.p⟩) (vs := [(0, .int _ _), (1, .agg _)]) rfl (by kernel_rfl)) ?_
   refine Rg_enter rfl (o_call2 call43 rfl rfl) (Ok.mono (r13grant_ok _ _ G _ hG.rd hGk ⟨o.a, o.p⟩ hox.1) ?_)
   rintro _ w29 ⟨⟨u47, h47e, hr47⟩, x30⟩
   have z31 := x30.size
   replace hX := hX.ex x30
   replace hXL16 := Bel.ex hXL16 x30
   replace hb2 := hb2.ext x30
   replace hb4 := hb4.ext x30
   replace hL := hL.ext x30
   replace hM := hM.ext x30
   obtain ⟨a47, c47, rfl, hr47⟩ := hr47
   obtain ⟨M47, hM47⟩ : ∃ z, z = (grantR G ⟨o.a, o.p⟩).1 := ⟨_, rfl⟩
   have hm47 : OkG M47 := hM47 ▸ hGk.grant hox.1
   rw [← hM47] at hr47 h47e
   subst h47e
   replace hr47 := hr47.mono (F' := fun g => n4 ≤ g) (fun g h1 h2 => by rcases h2 with h2 | h2 <;> (first | exact h2 | (have := h2.1; omega)))
   refine Rr (o_moveh (v := .tuple _) rfl) ?_
   refine Rr (o_extract rfl rfl) ?_
   refine Rr (o_extract rfl rfl) ?_
   refine Rr (o_fa underlying38 rfl sizeOf33 rfl) ?_
   refine Rg_store (v := .slice _ _ _) rfl sizeOf33 rfl rfl hb2 rfl rfl rfl ?_
   intro w32 c33 hb2
   change Box _ _ _ ([.int _ _, .slice _ _ _, .slice _ _ _, .int _ _, .slice _ _ _, .slice _ _ _, .slice _ _ _, .slice _ _ _, .slice _ _ _, .slice _ _ _]) at hb2
   have z34 := Bel.size c33
   replace hX := Bel.out hX c33 om2
   replace hXL16 := Bel.out hXL16 c33 om2
   replace hb4 := hb4.keep c33 om1
   replace hL := hL.keep c33 om3
   replace hM := hM.keep c33 om3
   replace hr47 := hr47.keep c33 om3
   refine Rg_nil (W_region ?_)
   refine Rr (o_add rfl rfl omg) ?_
   refine Rr (mvI rfl) ?_
   refine Rg_nil ?_
   refine ⟨(k + 1, aL, cL, L, aM, cM, M, a47, c47, M47), ⟨sT, trivial⟩, oT, ⟨?_, hXL16, ?_⟩, ?_⟩
   ·exact ⟨by show k + 1 ≤ O.length; omega, by have := hLl; simp only; omega, by have := hMl; simp only; omega, hm47⟩
   ·exact ⟨hb2, hb4, hL, hM, hr47⟩
   ·show O.length - (k + 1) < O.length - k; omega
  skip
  refine W_seq (W_region ?_)
  refine Rr (o_eql rfl rfl) ?_
  refine Rr (asB rfl) ?_
  refine Rg_nil ?_
  refine W_cond rfl (fun hc4 => ?_) (fun hc4 => ?_)
  ·have hk3 : o.k = 3 := eq_of_beq hc4
   refine W_seq (W_region ?_)
   refine Rr (o_fa underlying38 rfl sizeOf31 rfl) ?_
   refine Rr (o_load1 isAgg31 rfl (hb2.at.get 4 rfl)) ?_
   refine Rr (o_fa underlying44 rfl sizeOf3 rfl) ?_
   refine Rr (o_load1 isAgg3 rfl (hb7.at.get 2 rfl)) ?_
   refine Rr (o_fa underlying44 rfl sizeOf3 rfl) ?_
   refine Rr (o_load1 isAgg3 rfl (hb7.at.get 3 rfl)) ?_
   refine Rg_enter rfl (o_call3 call41 rfl rfl rfl) (Ok.mono (linkG_ok _ _ L o.a o.b _ hL.rd (by omega) (let ⟨x, _, h, _⟩ := hox.2 hk3; ⟨x, h⟩) (let ⟨_, y, _, h⟩ := hox.2 hk3; ⟨y, h⟩)) ?_)
   rintro _ w35 ⟨⟨u60, M60, e60, rfl, hr60, hl60⟩, x36⟩
   have z37 := x36.size
   replace hX := hX.ex x36
   replace hXL16 := Bel.ex hXL16 x36
   replace hb2 := hb2.ext x36
   replace hb4 := hb4.ext x36
   replace hM := hM.ext x36
   replace hG := hG.ext x36
   obtain ⟨a60, c60, rfl, hr60⟩ := hr60
   replace hr60 := hr60.mono (F' := fun g => n4 ≤ g) (fun g h1 h2 => by rcases h2 with h2 | h2 <;> (first | exact h2 | (have := h2.1; omega)))
   refine Rr (o_moveh (v := .tuple _) rfl) ?_
   refine Rr (o_extract rfl rfl) ?_
   refine Rr (o_extract rfl rfl) ?_
   refine Rr (asS rfl) ?_
   refine Rr (asI rfl) ?_
   refine Rg_nil (W_seq (W_seq (W_region ?_)))
   refine Rr (mvI rfl) ?_
   refine Rr (o_neq rfl rfl) ?_
   refine Rg_nil ?_
   refine W_cond rfl (fun hc5 => ?_) (fun hc5 => ?_)
   ·have he60 : e60 ≠ 0 := bne_iff_ne.1 hc5
    refine W_seq (W_region ?_)
    refine Rr (o_build (cells := stC 0 (.slice none 0 0) (.slice none 0 0) 0#64 (.slice none 0 0) (.slice none 0 0) (.slice none 0 0) (.slice none 0 0) (.slice none 0 0) (.slice none 0 0)) (vs := []) rfl (by kernel_rfl)) ?_
    refine Rg_storeW (v := .agg _) rfl sizeOf38 rfl rfl hb4 rfl rfl rfl ?_
    intro w38 c39 hb4
    change Box _ _ _ (stC _ _ _ _ _ _ _ _ _ _) at hb4
    have z40 := Bel.size c39
    replace hX := Bel.out hX c39 om2
    replace hXL16 := Bel.out hXL16 c39 om2
    refine Rr o_assignc ?_
    refine Rg_nil (W_ret ?_)
    refine ⟨_, res_T (vs := [.agg _, .int _ _]) rfl ⟨rv_cellS isAgg38 sizeOf38 rfl hb4.at rfl, rfl, trivial⟩ (by simp), ?_⟩
    exact ⟨ste_none (by decide), hX⟩
   skip
   refine W_skip (W_region ?_)
   refine Rr (mvS rfl) ?_
   refine Rr (o_fa underlying38 rfl sizeOf31 rfl) ?_
   refine Rg_store (v := .slice _ _ _) rfl sizeOf31 rfl rfl hb2 rfl rfl rfl ?_
   intro w41 c42 hb2
   change Box _ _ _ ([.int _ _, .slice _ _ _, .slice _ _ _, .int _ _, .slice _ _ _, .slice _ _ _, .slice _ _ _, .slice _ _ _, .slice _ _ _, .slice _ _ _]) at hb2
   have z43 := Bel.size c42
   replace hX := Bel.out hX c42 om2
   replace hXL16 := Bel.out hXL16 c42 om2
   replace hb4 := hb4.keep c42 om1
   replace hM := hM.keep c42 om3
   replace hG := hG.keep c42 om3
   replace hr60 := hr60.keep c42 om3
   refine Rg_nil (W_region ?_)
   refine Rr (o_add rfl rfl omg) ?_
   refine Rr (mvI rfl) ?_
   refine Rg_nil ?_
   refine ⟨(k + 1, a60, c60, M60, aM, cM, M, aG, cG, G), ⟨sT, trivial⟩, oT, ⟨?_, hXL16, ?_⟩, ?_⟩
   ·exact ⟨by show k + 1 ≤ O.length; omega, by have := hl60; simp only; omega, by have := hMl; simp only; omega, hGk⟩
   ·exact ⟨hb2, hb4, hr60, hM, hG⟩
   ·show O.length - (k + 1) < O.length - k; omega
  skip
  refine W_skip (W_region ?_)
  refine Rr (o_add rfl rfl omg) ?_
  refine Rr (mvI rfl) ?_
  refine Rg_nil ?_
  refine ⟨(k + 1, aL, cL, L, aM, cM, M, aG, cG, G), ⟨sT, trivial⟩, oT, ⟨?_, hXL16, ?_⟩, ?_⟩
  ·exact ⟨by show k + 1 ≤ O.length; omega, by have := hLl; simp only; omega, by have := hMl; simp only; omega, hGk⟩
  ·exact ⟨hb2, hb4, hL, hM, hG⟩
  ·show O.length - (k + 1) < O.length - k; omega
 have hk1 : ¬ k < O.length := by have := of_decide_eq_false hc1; omega
 refine W_exit (exAt_hit (W_seq (W_region ?_)))
 refine Rr (o_loadS isAgg38 sizeOf38 rfl hb2.at rfl) ?_
 refine Rg_storeW (v := .agg _) rfl sizeOf38 rfl rfl hb4 rfl rfl rfl ?_
 intro w44 c45 hb4
 change Box _ _ _ (stC _ _ _ _ _ _ _ _ _ _) at hb4
 have z46 := Bel.size c45
 replace hX := Bel.out hX c45 om2
 replace hL := hL.keep c45 om3
 replace hM := hM.keep c45 om3
 replace hG := hG.keep c45 om3
 refine Rr o_assignc ?_
 refine Rg_nil (W_ret ?_)
 refine ⟨_, res_T (vs := [.agg _, .int _ _]) rfl ⟨rv_cellS isAgg38 sizeOf38 rfl hb4.at rfl, rfl, trivial⟩ (by simp), ?_⟩
 refine ⟨?_, hX⟩
 exact ste_pack (fun _ => rfl) (hL.mono (fun g h1 h2 => ⟨by omega, h1⟩)) (hM.mono (fun g h1 h2 => ⟨by omega, h1⟩)) (hG.mono (fun g h1 h2 => ⟨by omega, h1⟩)) hGk (by omega) (by omega)

set_option maxHeartbeats 2000000 in
theorem rend_ok (aU : Option Addr) (nU cU : Nat) (aR : Option Addr) (nR cR : Nat) (ad : W64) (aX : Option Addr) (nX cX : Nat) (aY : Option Addr) (nY cY : Nat) (aZ : Option Addr) (nZ cZ : Nat) (aL : Option Addr) (cL : Nat) (L : List Pr) (aM : Option Addr) (cM : Nat) (M : List E12) (aG : Option Addr) (cG : Nat) (G : List Ent) (G0 : Nat → Prop) (v1 : Value) (G1 : Nat → Prop) (X : List COp) (w : World) (hL : Sl encPr 2 G0 w aL cL L) (hM : Sl encA12 3 G0 w aM cM M) (hG : Sl encE 4 G0 w aG cG G) (hGk : OkG G) (hl1 : L.length ≤ 1000) (hl2 : M.length ≤ 1000) (hx : Rd encRo 8 G1 w v1 X) (hX0 : ∀ x ∈ X, Vo x) (hn : X.length ≤ 1000) : Ok Tryz.prog 24 #[.agg (stC 10 (.slice aU nU cU) (.slice aR nR cR) ad (.slice aL L.length cL) (.slice aM M.length cM) (.slice aG G.length cG) (.slice aX nX cX) (.slice aY nY cY) (.slice aZ nZ cZ)).toArray, v1] w fun v w' => StE 10000 10 (Fsh w w') w' v ∧ Ext False w w' := by
 obtain ⟨ax, cx, rfl, hx⟩ := hx
 have mx := hx.len
 replace hL := hL.mono (F' := fun g => g < w.heap.size) (fun g h1 h2 => h1)
 replace hM := hM.mono (F' := fun g => g < w.heap.size) (fun g h1 h2 => h1)
 replace hG := hG.mono (F' := fun g => g < w.heap.size) (fun g h1 h2 => h1)
 replace hx := hx.mono (F' := fun g => g < w.heap.size) (fun g h1 h2 => h1)
 refine Ok_of_W 67 func24 rfl rfl rfl ?_
 have hX : Ext False w w := Bel.refl _ _
 refine W_seq (W_region ?_)
 refine Rg_newB rfl (o_box (v := .agg _) rfl) ?_
 intro b2 w1 x2 hge2 hb2
 have hlt2 := hb2.lt
 change Box _ _ _ (stC _ _ _ _ _ _ _ _ _ _) at hb2
 have z3 := x2.size
 replace hX := hX.ex x2
 replace hL := hL.ext x2
 replace hM := hM.ext x2
 replace hG := hG.ext x2
 replace hx := hx.ext x2
 refine Rg_newB rfl (o_alloc zeroValue38) ?_
 intro b4 w4 x5 hge4 hb4
 have hlt4 := hb4.lt
 change Box _ _ _ ([.int _ _, .slice _ _ _, .slice _ _ _, .int _ _, .slice _ _ _, .slice _ _ _, .slice _ _ _, .slice _ _ _, .slice _ _ _, .slice _ _ _]) at hb4
 have z6 := x5.size
 replace hX := hX.ex x5
 replace hL := hL.ext x5
 replace hM := hM.ext x5
 replace hG := hG.ext x5
 replace hx := hx.ext x5
 replace hb2 := hb2.ext x5
 refine Rr o_assignc ?_
 refine Rg_nil (W_seq (W_region ?_))
 refine Rr (o_loadS isAgg38 sizeOf38 rfl hb2.at rfl) ?_
 refine Rg_enter rfl (o_call1 call37 rfl) (Ok.mono (things_walk (.bool true) (fun g => g < w.heap.size) _ _ _ ad _ _ _ aL cL L aM cM M aG cG G hL hM hG (by omega) (by omega) hGk.len) ?_)
 rintro v16 w7 ⟨hown16, x8⟩
 have z9 := x8.size
 replace hX := hX.ex x8
 replace hx := hx.ext x8
 replace hb2 := hb2.ext x8
 replace hb4 := hb4.ext x8
 replace hown16 := hown16.mono (D' := fun g => b4 < g) (fun g h1 h2 => by omega)
 refine Rr (o_assignh (v := v16) rfl) ?_
 refine Rg_nil (W_seq (W_seq (W_region ?_)))
 obtain ⟨a6q, c6q, hv6q, hs6q⟩ := hown16.sl encRo_ok
 subst hv6q
 obtain ⟨n5, hn5⟩ : ∃ n, n = w7.heap.size := ⟨_, rfl⟩
 replace hs6q := hs6q.mono (F' := fun g => b4 < g ∧ g < n5) (fun g h1 h2 => ⟨h2, by omega⟩)
 obtain ⟨T, hT⟩ : ∃ T, T = thingsO M G L := ⟨_, rfl⟩
 rw [← hT] at hs6q
 have hTx : ∀ o ∈ T, RoX o := hT ▸ things_rox hGk
 have hTl : T.length ≤ 3000 := by have := hGk.len; rw [hT]; unfold thingsO; simp only [List.length_append, List.length_map]; omega
 rw [← hT]
 refine Rr (mvS rfl) ?_
 refine Rr (o_llen underlying27 rfl) ?_
 refine Rr o_movec ?_
 refine Rg_nil (W_block ?_)
 refine W_for (α := Nat) [(5, 5), (8, 9), (19, 32)] (fun k => [(19, .int .i64 (k : Int))]) (fun k w' => (k ≤ X.length) ∧ Bel False (fun g => g = b4) w7 w' ∧ (Box w' b4 38 (stC 0 (.slice none 0 0) (.slice none 0 0) 0#64 (.slice none 0 0) (.slice none 0 0) (.slice none 0 0) (.slice none 0 0) (.slice none 0 0) (.slice none 0 0)))) (fun k => X.length - k) 0 ⟨rfl, trivial⟩ ⟨Nat.zero_le _, Bel.refl _ _, hb4⟩ ?_
 rintro k fb12 w11 ⟨hk, hXL10, hb4⟩
 have z13 := Bel.size hXL10
 replace hX := Bel.out hX hXL10 om2
 replace hx := hx.keep hXL10 om3
 replace hb2 := hb2.keep hXL10 om1
 replace hs6q := hs6q.keep hXL10 om3
 refine W_seq (W_region ?_)
 refine Rr (o_lss rfl rfl) ?_
 refine Rg_nil (W_seq ?_)
 refine W_cond rfl (fun hc1 => ?_) (fun hc1 => ?_)
 ·have hk1 : k < X.length := by have := of_decide_eq_true hc1; omega
  refine W_skip (W_seq (W_block (W_seq (W_region ?_))))
  refine Rr (o_iaR underlying27 sizeOf44 hx rfl rfl omg) ?_
  refine Rr (o_ldRS isAgg44 sizeOf44 hx rfl (getE coz hk1)) ?_
  refine Rg_alst rfl rfl zeroValue44 rfl sizeOf44 (fun _ => rfl) rfl rfl ?_
  intro b8 w14 x15 hge8 hb8
  have hlt8 := hb8.lt
  change Box _ _ _ (encRo _) at hb8
  have z16 := x15.size
  replace hX := hX.ex x15
  replace hXL10 := Bel.ex hXL10 x15
  replace hx := hx.ext x15
  replace hb2 := hb2.ext x15
  replace hs6q := hs6q.ext x15
  replace hb4 := hb4.ext x15
  refine Rg_nil (W_seq (W_region ?_))
  refine Rr (o_loadS isAgg38 sizeOf38 rfl hb2.at rfl) ?_
  refine Rr (mvS rfl) ?_
  refine Rr (mvS rfl) ?_
  refine Rr (o_loadS isAgg44 sizeOf44 rfl hb8.at rfl) ?_
  refine Rg_enter rfl (o_call4 call61 rfl rfl rfl rfl) (Ok.mono (rfits_ok 10 aU nU cU aR nR cR ad aX nX cX aY nY cY aZ nZ cZ _ _ _ _ _ _ _ T X (X.getD k coz) _ hs6q.rd hx.rd (hX0 _ (gm hk1))) ?_)
  rintro _ w17 ⟨⟨e27, rfl⟩, x18⟩
  have z19 := x18.size
  replace hX := hX.ex x18
  replace hXL10 := Bel.ex hXL10 x18
  replace hb4 := hb4.ext x18
  refine Rr (asI rfl) ?_
  refine Rg_nil (W_seq (W_region ?_))
  refine Rr (mvI rfl) ?_
  refine Rr (o_neq rfl rfl) ?_
  refine Rg_nil ?_
  refine W_cond rfl (fun hc2 => ?_) (fun hc2 => ?_)
  ·have he27 : e27 ≠ 0 := bne_iff_ne.1 hc2
   refine W_seq (W_region ?_)
   refine Rr (o_build (cells := stC 0 (.slice none 0 0) (.slice none 0 0) 0#64 (.slice none 0 0) (.slice none 0 0) (.slice none 0 0) (.slice none 0 0) (.slice none 0 0) (.slice none 0 0)) (vs := []) rfl (by kernel_rfl)) ?_
   refine Rr (mvI rfl) ?_
   refine Rg_storeW (v := .agg _) rfl sizeOf38 rfl rfl hb4 rfl rfl rfl ?_
   intro w20 c21 hb4
   change Box _ _ _ (stC _ _ _ _ _ _ _ _ _ _) at hb4
   have z22 := Bel.size c21
   replace hX := Bel.out hX c21 om2
   replace hXL10 := Bel.out hXL10 c21 om2
   refine Rr (asI rfl) ?_
   refine Rg_nil (W_ret ?_)
   refine ⟨_, res_T (vs := [.agg _, .int _ _]) rfl ⟨rv_cellS isAgg38 sizeOf38 rfl hb4.at rfl, rfl, trivial⟩ (by simp), ?_⟩
   exact ⟨ste_none he27, hX⟩
  skip
  refine W_skip (W_region ?_)
  refine Rr (o_add rfl rfl omg) ?_
  refine Rr (mvI rfl) ?_
  refine Rg_nil ?_
  refine ⟨k + 1, ⟨sT, trivial⟩, oT, ⟨?_, hXL10, ?_⟩, ?_⟩
  ·show k + 1 ≤ X.length; omega
  ·exact hb4
  ·omega
 skip
 refine W_exit (exAt_hit (W_seq (W_region ?_)))
 refine Rr o_assignc ?_
 refine Rg_nil (W_seq (W_seq (W_region ?_)))
 refine Rr (mvS rfl) ?_
 refine Rr (o_llen underlying27 rfl) ?_
 refine Rr o_movec ?_
 refine Rg_nil (W_block ?_)
 refine W_for (α := Nat × Value × List COp) [(10, 10), (12, 12), (35, 48)] (fun q => [(35, .int .i64 (q.1 : Int)), (10, q.2.1)]) (fun q w' => (q.1 ≤ T.length ∧ q.2.2.length ≤ 0 + q.1 ∧ ∀ o ∈ q.2.2, RoX o) ∧ Bel False (fun g => n5 ≤ g) w11 w' ∧ (Own encRo 8 44 (fun g => n5 ≤ g) w' q.2.1 q.2.2)) (fun q => T.length - q.1) (0, .slice none 0 0, []) ⟨rfl, rfl, trivial⟩ ⟨⟨Nat.zero_le _, Nat.le_refl _, fun o h => absurd h (by simp)⟩, Bel.refl _ _, Own.nil _ _⟩ ?_
 rintro ⟨k, t, O⟩ fb25 w24 ⟨⟨hk, hOl, hOk⟩, hXL23, hown10⟩
 dsimp only at *
 have z26 := Bel.size hXL23
 replace hX := Bel.out hX hXL23 om2
 replace hx := hx.keep hXL23 om3
 replace hb2 := hb2.keep hXL23 om1
 replace hs6q := hs6q.keep hXL23 om3
 replace hb4 := hb4.keep hXL23 om1
 refine W_seq (W_region ?_)
 refine Rr (o_lss rfl rfl) ?_
 refine Rg_nil (W_seq ?_)
 refine W_cond rfl (fun hc3 => ?_) (fun hc3 => ?_)
 ·have hk1 : k < T.length := by have := of_decide_eq_true hc3; omega
  refine W_skip (W_seq (W_block (W_seq (W_region ?_))))
  refine Rr (o_iaR underlying27 sizeOf44 hs6q rfl rfl omg) ?_
  refine Rr (o_ldRS isAgg44 sizeOf44 hs6q rfl (getE coz hk1)) ?_
  refine Rg_alst rfl rfl zeroValue44 rfl sizeOf44 (fun _ => rfl) rfl rfl ?_
  intro b12 w27 x28 hge12 hb12
  replace hown10 := hown10.mono (D' := fun g => n5 ≤ g ∧ g ≠ b12) (fun g h1 h2 => by omega)
  have hlt12 := hb12.lt
  change Box _ _ _ (encRo _) at hb12
  have z29 := x28.size
  replace hX := hX.ex x28
  replace hXL23 := Bel.ex hXL23 x28
  replace hx := hx.ext x28
  replace hown10 := hown10.ext x28
  refine Rg_nil (W_seq (W_region ?_))
  refine Rr (mvS rfl) ?_
  refine Rr (o_loadS isAgg44 sizeOf44 rfl hb12.at rfl) ?_
  refine Rg_enter rfl (o_call1 call63 rfl) (Ok.mono (rflip_ok _ _) ?_)
  rintro _ w30 ⟨rfl, x31⟩
  have z32 := x31.size
  replace hX := hX.ex x31
  replace hXL23 := Bel.ex hXL23 x31
  replace hx := hx.ext x31
  replace hown10 := hown10.ext x31
  replace hb12 := hb12.ext x31
  refine Rg_enter rfl (o_call2 call62 rfl rfl) (Ok.mono (rin_ok _ _ _ _ _ hx.trd) ?_)
  rintro _ w33 ⟨rfl, x34⟩
  have z35 := x34.size
  replace hX := hX.ex x34
  replace hXL23 := Bel.ex hXL23 x34
  replace hown10 := hown10.ext x34
  replace hb12 := hb12.ext x34
  refine Rr (o_not rfl) ?_
  refine Rg_nil ?_
  refine W_cond rfl (fun hc4 => ?_) (fun hc4 => ?_)
  ·skip
   refine W_region ?_
   refine Rr (o_moveh (v := t) rfl) ?_
   refine Rr (o_loadS isAgg44 sizeOf44 rfl hb12.at rfl) ?_
   refine Rg_bs (vs := [.agg _]) ([(T.getD k coz)]) rfl encRo_ok el_ro rfl rfl ⟨rfl, trivial⟩ rfl rfl rfl rfl ?_
   intro a46 w36 x37 hown46
   have z38 := x37.size
   replace hX := hX.ex x37
   replace hXL23 := Bel.ex hXL23 x37
   replace hown10 := hown10.ext x37
   replace hown46 := hown46.mono (D' := fun g => n5 ≤ g) (fun g h1 h2 => by omega)
   refine Rg_app rfl encRo_ok el_ro rfl rfl hown10 (hown46.slA encRo_ok) rfl (by rw [List.length_singleton]; omega) omU ?_
   intro v47 w39 x40 hown10
   have z41 := x40.size
   replace hX := Bel.out hX x40 om2
   replace hXL23 := Bel.out hXL23 x40 om2
   refine Rr (o_assignh (v := v47) rfl) ?_
   refine Rg_nil (W_region ?_)
   refine Rr (o_add rfl rfl omg) ?_
   refine Rr (mvI rfl) ?_
   refine Rg_nil ?_
   refine ⟨(k + 1, v47, O ++ [(T.getD k coz)]), ⟨sT, sT, trivial⟩, oT, ⟨?_, hXL23, ?_⟩, ?_⟩
   ·exact ⟨by show k + 1 ≤ T.length; omega, by rw [List.length_append, List.length_singleton]; omega, fun o h => (List.mem_append.1 h).elim (hOk o) (fun h => (List.mem_singleton.1 h) ▸ (hTx _ (gm hk1)))⟩
   ·exact hown10.mono (fun g h1 h2 => by omega)
   ·show T.length - (k + 1) < T.length - k; omega
  skip
  refine W_skip (W_region ?_)
  refine Rr (o_add rfl rfl omg) ?_
  refine Rr (mvI rfl) ?_
  refine Rg_nil ?_
  refine ⟨(k + 1, t, O), ⟨sT, sT, trivial⟩, oT, ⟨?_, hXL23, ?_⟩, ?_⟩
  ·exact ⟨by show k + 1 ≤ T.length; omega, by show O.length ≤ 0 + (k + 1); omega, hOk⟩
  ·exact hown10.mono (fun g h1 h2 => by omega)
  ·show T.length - (k + 1) < T.length - k; omega
 skip
 refine W_exit (exAt_hit (W_seq (W_seq (W_region ?_))))
 refine Rr (mvS rfl) ?_
 refine Rr (o_llen underlying27 rfl) ?_
 refine Rr o_movec ?_
 refine Rg_nil (W_block ?_)
 refine W_for (α := Nat × Value × List COp) [(10, 10), (14, 14), (51, 61)] (fun q => [(51, .int .i64 (q.1 : Int)), (10, q.2.1)]) (fun q w' => (q.1 ≤ X.length ∧ q.2.2.length ≤ T.length + q.1 ∧ ∀ o ∈ q.2.2, RoX o) ∧ Bel False (fun g => n5 ≤ g) w24 w' ∧ (Own encRo 8 44 (fun g => n5 ≤ g) w' q.2.1 q.2.2)) (fun q => X.length - q.1) (0, t, O) ⟨rfl, rfl, trivial⟩ ⟨⟨Nat.zero_le _, by show O.length ≤ T.length + 0; omega, hOk⟩, Bel.refl _ _, (hown10.mono (fun g h1 h2 => h2))⟩ ?_
 rintro ⟨k, t, O⟩ fb44 w43 ⟨⟨hk, hOl, hOk⟩, hXL42, hown10⟩
 dsimp only at *
 have z45 := Bel.size hXL42
 replace hX := Bel.out hX hXL42 om2
 replace hx := hx.keep hXL42 om3
 replace hb2 := hb2.keep hXL42 om1
 replace hb4 := hb4.keep hXL42 om1
 refine W_seq (W_region ?_)
 refine Rr (o_lss rfl rfl) ?_
 refine Rg_nil (W_seq ?_)
 refine W_cond rfl (fun hc5 => ?_) (fun hc5 => ?_)
 ·have hk1 : k < X.length := by have := of_decide_eq_true hc5; omega
  refine W_skip (W_seq (W_block (W_seq (W_region ?_))))
  refine Rr (o_iaR underlying27 sizeOf44 hx rfl rfl omg) ?_
  refine Rr (o_ldRS isAgg44 sizeOf44 hx rfl (getE coz hk1)) ?_
  refine Rg_alst rfl rfl zeroValue44 rfl sizeOf44 (fun _ => rfl) rfl rfl ?_
  intro b14 w46 x47 hge14 hb14
  replace hown10 := hown10.mono (D' := fun g => n5 ≤ g ∧ g ≠ b14) (fun g h1 h2 => by omega)
  have hlt14 := hb14.lt
  change Box _ _ _ (encRo _) at hb14
  have z48 := x47.size
  replace hX := hX.ex x47
  replace hXL42 := Bel.ex hXL42 x47
  replace hown10 := hown10.ext x47
  refine Rg_nil (W_seq (W_region ?_))
  refine Rr (o_fa underlying44 rfl sizeOf4 rfl) ?_
  refine Rr (o_load1 isAgg4 rfl (hb14.at.get 0 rfl)) ?_
  refine Rg_nil ?_
  refine W_cond rfl (fun hc6 => ?_) (fun hc6 => ?_)
  ·skip
   refine W_region ?_
   refine Rr (o_moveh (v := t) rfl) ?_
   refine Rr (o_loadS isAgg44 sizeOf44 rfl hb14.at rfl) ?_
   refine Rg_bs (vs := [.agg _]) ([(X.getD k coz)]) rfl encRo_ok el_ro rfl rfl ⟨rfl, trivial⟩ rfl rfl rfl rfl ?_
   intro a59 w49 x50 hown59
   have z51 := x50.size
   replace hX := hX.ex x50
   replace hXL42 := Bel.ex hXL42 x50
   replace hown10 := hown10.ext x50
   replace hown59 := hown59.mono (D' := fun g => n5 ≤ g) (fun g h1 h2 => by omega)
   refine Rg_app rfl encRo_ok el_ro rfl rfl hown10 (hown59.slA encRo_ok) rfl (by rw [List.length_singleton]; omega) omU ?_
   intro v60 w52 x53 hown10
   have z54 := x53.size
   replace hX := Bel.out hX x53 om2
   replace hXL42 := Bel.out hXL42 x53 om2
   refine Rr (o_assignh (v := v60) rfl) ?_
   refine Rg_nil (W_region ?_)
   refine Rr (o_add rfl rfl omg) ?_
   refine Rr (mvI rfl) ?_
   refine Rg_nil ?_
   refine ⟨(k + 1, v60, O ++ [(X.getD k coz)]), ⟨sT, sT, trivial⟩, oT, ⟨?_, hXL42, ?_⟩, ?_⟩
   ·exact ⟨by show k + 1 ≤ X.length; omega, by rw [List.length_append, List.length_singleton]; omega, fun o h => (List.mem_append.1 h).elim (hOk o) (fun h => (List.mem_singleton.1 h) ▸ ((hX0 _ (gm hk1)).rox))⟩
   ·exact hown10.mono (fun g h1 h2 => by omega)
   ·show X.length - (k + 1) < X.length - k; omega
  skip
  refine W_skip (W_region ?_)
  refine Rr (o_add rfl rfl omg) ?_
  refine Rr (mvI rfl) ?_
  refine Rg_nil ?_
  refine ⟨(k + 1, t, O), ⟨sT, sT, trivial⟩, oT, ⟨?_, hXL42, ?_⟩, ?_⟩
  ·exact ⟨by show k + 1 ≤ X.length; omega, by show O.length ≤ T.length + (k + 1); omega, hOk⟩
  ·exact hown10.mono (fun g h1 h2 => by omega)
  ·show X.length - (k + 1) < X.length - k; omega
 skip
 refine W_exit (exAt_hit (W_seq (W_region ?_)))
 refine Rr (o_loadS isAgg38 sizeOf38 rfl hb2.at rfl) ?_
 refine Rr (o_moveh (v := t) rfl) ?_
 refine Rg_enter rfl (o_call2 call64 rfl rfl) (Ok.mono (rwith_ok 10 aU nU cU aR nR cR ad aX nX cX aY nY cY aZ nZ cZ _ _ _ _ _ _ _ _ _ _ _ O _ (hown10.rd encRo_ok) hOk (by omega)) ?_)
 rintro v64 w55 ⟨hst64, x56⟩
 have z57 := x56.size
 replace hX := hX.ex x56
 replace hb4 := hb4.ext x56
 obtain ⟨d', aU', nU', cU', aR', nR', cR', ad', aX', nX', cX', aY', nY', cY', aZ', nZ', cZ', aL', cL', L', aM', cM', M', aG', cG', G', e', hv64, hd', hL', hM', hG', hGk', hl1', hl2'⟩ := hst64
 subst hv64
 replace hL' := hL'.mono (F' := fun g => n5 ≤ g) (fun g h1 h2 => by have := h2.1; omega)
 replace hM' := hM'.mono (F' := fun g => n5 ≤ g) (fun g h1 h2 => by have := h2.1; omega)
 replace hG' := hG'.mono (F' := fun g => n5 ≤ g) (fun g h1 h2 => by have := h2.1; omega)
 refine Rr (o_extract rfl rfl) ?_
 refine Rr (o_extract rfl rfl) ?_
 refine Rg_storeW (v := .agg _) rfl sizeOf38 rfl rfl hb4 rfl rfl rfl ?_
 intro w58 c59 hb4
 change Box _ _ _ (stC _ _ _ _ _ _ _ _ _ _) at hb4
 have z60 := Bel.size c59
 replace hX := Bel.out hX c59 om2
 replace hL' := hL'.keep c59 om3
 replace hM' := hM'.keep c59 om3
 replace hG' := hG'.keep c59 om3
 refine Rr (asI rfl) ?_
 refine Rg_nil (W_ret ?_)
 refine ⟨_, res_T (vs := [.agg _, .int _ _]) rfl ⟨rv_cellS isAgg38 sizeOf38 rfl hb4.at rfl, rfl, trivial⟩ (by simp), ?_⟩
 refine ⟨?_, hX⟩
 exact ste_pack hd' (hL'.mono (fun g h1 h2 => ⟨by omega, h1⟩)) (hM'.mono (fun g h1 h2 => ⟨by omega, h1⟩)) (hG'.mono (fun g h1 h2 => ⟨by omega, h1⟩)) hGk' (by omega) (by omega)

set_option maxHeartbeats 4000000 in
theorem rthen_ok (v0 v1 : Value) (G H : Nat → Prop) (X Y : List COp) (w : World) (hs : Rd encRo 8 G w v0 X) (ht : Rd encRo 8 H w v1 Y) (hX0 : VS X) (hY0 : VS Y) (hn : X.length ≤ 10000) (hm : Y.length ≤ 10000) : Ok Tryz.prog 27 #[v0, v1] w fun v w' => (∃ u, v = .tuple #[u, .int .i64 (thenS X Y).2] ∧ Own encRo 8 44 (Fsh w w') w' u (thenS X Y).1) ∧ Ext False w w' := by
 obtain ⟨a, c, rfl, hs⟩ := hs; obtain ⟨b, d, rfl, ht⟩ := ht
 have hlen := hs.len; have hlen2 := ht.len
 replace hs := hs.mono (F' := fun g => g < w.heap.size) (fun g h1 h2 => h1)
 replace ht := ht.mono (F' := fun g => g < w.heap.size) (fun g h1 h2 => h1)
 have hXp : ∀ x ∈ X, x.p.ok := fun x hx => (hX0.v x hx).ok
 have hYp : ∀ x ∈ Y, x.p.ok := fun x hx => (hY0.v x hx).ok
 have hXY : (X ++ Y).length ≤ 20000 := by rw [List.length_append]; omega
 refine Ok_of_W 144 func27 rfl rfl rfl ?_
 have hX : Ext False w w := Bel.refl _ _
 refine W_seq (W_region ?_)
 refine Rr o_assignc ?_
 refine Rr o_assignc ?_
 refine Rg_nil (W_seq (W_region ?_))
 refine Rr o_assignc ?_
 refine Rg_nil (W_seq (W_seq (W_region ?_)))
 refine Rg_bs (vs := []) (([] : List COp)) rfl encRo_ok el_ro rfl rfl trivial rfl rfl rfl rfl ?_
 intro a24 w1 x2 hown24
 have z3 := x2.size
 replace hX := hX.ex x2
 replace hs := hs.ext x2
 replace ht := ht.ext x2
 replace hown24 := hown24.mono (D' := fun g => w.heap.size ≤ g) (fun g h1 h2 => by omega)
 refine Rr (mvS rfl) ?_
 refine Rg_app rfl encRo_ok el_ro rfl rfl hown24 hs rfl (by rw [List.length_nil]; omega) omU ?_
 intro v26 w4 x5 hown24
 have z6 := x5.size
 replace hX := Bel.out hX x5 om2
 replace hs := hs.keep x5 om3
 replace ht := ht.keep x5 om3
 refine Rr (mvS rfl) ?_
 refine Rg_app rfl encRo_ok el_ro rfl rfl hown24 ht rfl (by rw [List.nil_append]; omega) omU ?_
 intro v28 w7 x8 hown24
 have z9 := x8.size
 replace hX := Bel.out hX x8 om2
 replace hs := hs.keep x8 om3
 replace ht := ht.keep x8 om3
 rw [List.nil_append] at hown24
 obtain ⟨a28q, c28q, hv28q, hs28q⟩ := hown24.sl encRo_ok
 subst hv28q
 obtain ⟨n5, hn5⟩ : ∃ n, n = w7.heap.size := ⟨_, rfl⟩
 replace hs28q := hs28q.mono (F' := fun g => g < n5) (fun g h1 h2 => by omega)
 refine Rr (o_llen underlying27 rfl) ?_
 refine Rr o_movec ?_
 refine Rg_nil (W_block ?_)
 refine W_for (α := Nat × Value) [(4, 6), (8, 23), (30, 141)] (fun q => [(30, .int .i64 (q.1 : Int)), (6, q.2)]) (fun q w' => (q.1 ≤ (X ++ Y).length ∧ ∀ j, j < q.1 → badT X Y ((X ++ Y).getD j coz).key = false) ∧ Bel False (fun g => n5 ≤ g) w7 w' ∧ (Own encRo 8 44 (fun g => n5 ≤ g) w' q.2 (foldT X Y ((X ++ Y).take q.1)))) (fun q => (X ++ Y).length - q.1) (0, .slice none 0 0) ⟨rfl, rfl, trivial⟩ ⟨⟨Nat.zero_le _, fun j h => absurd h (Nat.not_lt_zero _)⟩, Bel.refl _ _, Own.nil _ _⟩ ?_
 rintro ⟨k, t⟩ fb12 w11 ⟨⟨hk, hall⟩, hXL10, hown6⟩
 dsimp only at *
 have z13 := Bel.size hXL10
 replace hX := Bel.out hX hXL10 om2
 replace hs := hs.keep hXL10 om3
 replace ht := ht.keep hXL10 om3
 replace hs28q := hs28q.keep hXL10 om3
 obtain ⟨U, hU⟩ : ∃ U, U = foldT X Y ((X ++ Y).take k) := ⟨_, rfl⟩
 have hUl := foldT_le X Y ((X ++ Y).take k)
 rw [List.length_take, ← hU] at hUl
 rw [← hU] at hown6
 refine W_seq (W_region ?_)
 refine Rr (o_lss rfl rfl) ?_
 refine Rg_nil (W_seq ?_)
 refine W_cond rfl (fun hc1 => ?_) (fun hc1 => ?_)
 ·have hk1 : k < (X ++ Y).length := by have := of_decide_eq_true hc1; omega
  refine W_skip (W_seq (W_block (W_seq (W_region ?_))))
  refine Rr (o_iaR underlying27 sizeOf44 hs28q rfl rfl omg) ?_
  refine Rr (o_ldRS isAgg44 sizeOf44 hs28q rfl (getE coz hk1)) ?_
  refine Rg_alst rfl rfl zeroValue44 rfl sizeOf44 (fun _ => rfl) rfl rfl ?_
  intro b8 w14 x15 hge8 hb8
  replace hown6 := hown6.mono (D' := fun g => n5 ≤ g ∧ g ≠ b8) (fun g h1 h2 => by omega)
  have hlt8 := hb8.lt
  change Box _ _ _ (encRo _) at hb8
  have z16 := x15.size
  replace hX := hX.ex x15
  replace hXL10 := Bel.ex hXL10 x15
  replace hs := hs.ext x15
  replace ht := ht.ext x15
  replace hown6 := hown6.ext x15
  refine Rg_nil (W_seq (W_region ?_))
  obtain ⟨o, ho⟩ : ∃ o, o = ((X ++ Y).getD k coz) := ⟨_, rfl⟩
  rw [← ho] at hb8
  refine Rr (o_loadS isAgg44 sizeOf44 rfl hb8.at rfl) ?_
  refine Rg_enter rfl (o_call1 call15 rfl) (Ok.mono (rkey_ok o _) ?_)
  rintro _ w17 ⟨rfl, x18⟩
  have z19 := x18.size
  replace hX := hX.ex x18
  replace hXL10 := Bel.ex hXL10 x18
  replace hs := hs.ext x18
  replace ht := ht.ext x18
  replace hown6 := hown6.ext x18
  refine Rg_alst rfl rfl zeroValue59 rfl sizeOf59 (fun _ => rfl) rfl rfl ?_
  intro b9 w20 x21 hge9 hb9
  replace hown6 := hown6.mono (D' := fun g => n5 ≤ g ∧ g ≠ b8 ∧ g ≠ b9) (fun g h1 h2 => by omega)
  have hlt9 := hb9.lt
  change Box _ _ _ (encRk _) at hb9
  have z22 := x21.size
  replace hX := hX.ex x21
  replace hXL10 := Bel.ex hXL10 x21
  replace hs := hs.ext x21
  replace ht := ht.ext x21
  replace hown6 := hown6.ext x21
  refine Rg_nil (W_seq (W_region ?_))
  refine Rr (mvS rfl) ?_
  refine Rr (o_loadS isAgg59 sizeOf59 rfl hb9.at rfl) ?_
  refine Rg_enter rfl (o_call3 call68 rfl rfl rfl) (Ok.mono (rfind_ok _ _ _ _ _ _ hs.trd) ?_)
  rintro _ w23 ⟨rfl, x24⟩
  have z25 := x24.size
  replace hX := hX.ex x24
  replace hXL10 := Bel.ex hXL10 x24
  replace hs := hs.ext x24
  replace ht := ht.ext x24
  replace hown6 := hown6.ext x24
  replace hb9 := hb9.ext x24
  obtain ⟨cm, hcm⟩ : ∃ z, z = findO X o.key false := ⟨_, rfl⟩
  rw [← hcm]
  refine Rr (o_moveh (v := .tuple _) rfl) ?_
  refine Rr (o_extract rfl rfl) ?_
  refine Rr (o_extract rfl rfl) ?_
  refine Rg_alst rfl rfl zeroValue44 rfl sizeOf44 (fun _ => rfl) rfl rfl ?_
  intro b10 w26 x27 hge10 hb10
  replace hown6 := hown6.mono (D' := fun g => n5 ≤ g ∧ g ≠ b8 ∧ g ≠ b9 ∧ g ≠ b10) (fun g h1 h2 => by omega)
  have hlt10 := hb10.lt
  change Box _ _ _ (encRo _) at hb10
  have z28 := x27.size
  replace hX := hX.ex x27
  replace hXL10 := Bel.ex hXL10 x27
  replace hs := hs.ext x27
  replace ht := ht.ext x27
  replace hown6 := hown6.ext x27
  replace hb9 := hb9.ext x27
  refine Rr (asB rfl) ?_
  refine Rg_nil (W_seq (W_region ?_))
  refine Rr (mvS rfl) ?_
  refine Rr (o_loadS isAgg59 sizeOf59 rfl hb9.at rfl) ?_
  refine Rg_enter rfl (o_call3 call68 rfl rfl rfl) (Ok.mono (rfind_ok _ _ _ _ _ _ hs.trd) ?_)
  rintro _ w29 ⟨rfl, x30⟩
  have z31 := x30.size
  replace hX := hX.ex x30
  replace hXL10 := Bel.ex hXL10 x30
  replace ht := ht.ext x30
  replace hown6 := hown6.ext x30
  replace hb9 := hb9.ext x30
  replace hb10 := hb10.ext x30
  obtain ⟨cp, hcp⟩ : ∃ z, z = findO X o.key true := ⟨_, rfl⟩
  rw [← hcp]
  refine Rr (o_moveh (v := .tuple _) rfl) ?_
  refine Rr (o_extract rfl rfl) ?_
  refine Rr (o_extract rfl rfl) ?_
  refine Rg_alst rfl rfl zeroValue44 rfl sizeOf44 (fun _ => rfl) rfl rfl ?_
  intro b12 w32 x33 hge12 hb12
  replace hown6 := hown6.mono (D' := fun g => n5 ≤ g ∧ g ≠ b8 ∧ g ≠ b9 ∧ g ≠ b10 ∧ g ≠ b12) (fun g h1 h2 => by omega)
  have hlt12 := hb12.lt
  change Box _ _ _ (encRo _) at hb12
  have z34 := x33.size
  replace hX := hX.ex x33
  replace hXL10 := Bel.ex hXL10 x33
  replace ht := ht.ext x33
  replace hown6 := hown6.ext x33
  replace hb9 := hb9.ext x33
  replace hb10 := hb10.ext x33
  refine Rr (asB rfl) ?_
  refine Rg_nil (W_seq (W_region ?_))
  refine Rr (mvS rfl) ?_
  refine Rr (o_loadS isAgg59 sizeOf59 rfl hb9.at rfl) ?_
  refine Rg_enter rfl (o_call3 call68 rfl rfl rfl) (Ok.mono (rfind_ok _ _ _ _ _ _ ht.trd) ?_)
  rintro _ w35 ⟨rfl, x36⟩
  have z37 := x36.size
  replace hX := hX.ex x36
  replace hXL10 := Bel.ex hXL10 x36
  replace ht := ht.ext x36
  replace hown6 := hown6.ext x36
  replace hb9 := hb9.ext x36
  replace hb10 := hb10.ext x36
  replace hb12 := hb12.ext x36
  obtain ⟨dm, hdm⟩ : ∃ z, z = findO Y o.key false := ⟨_, rfl⟩
  rw [← hdm]
  refine Rr (o_moveh (v := .tuple _) rfl) ?_
  refine Rr (o_extract rfl rfl) ?_
  refine Rr (o_extract rfl rfl) ?_
  refine Rg_alst rfl rfl zeroValue44 rfl sizeOf44 (fun _ => rfl) rfl rfl ?_
  intro b14 w38 x39 hge14 hb14
  replace hown6 := hown6.mono (D' := fun g => n5 ≤ g ∧ g ≠ b8 ∧ g ≠ b9 ∧ g ≠ b10 ∧ g ≠ b12 ∧ g ≠ b14) (fun g h1 h2 => by omega)
  have hlt14 := hb14.lt
  change Box _ _ _ (encRo _) at hb14
  have z40 := x39.size
  replace hX := hX.ex x39
  replace hXL10 := Bel.ex hXL10 x39
  replace ht := ht.ext x39
  replace hown6 := hown6.ext x39
  replace hb9 := hb9.ext x39
  replace hb10 := hb10.ext x39
  replace hb12 := hb12.ext x39
  refine Rr (asB rfl) ?_
  refine Rg_nil (W_seq (W_region ?_))
  refine Rr (mvS rfl) ?_
  refine Rr (o_loadS isAgg59 sizeOf59 rfl hb9.at rfl) ?_
  refine Rg_enter rfl (o_call3 call68 rfl rfl rfl) (Ok.mono (rfind_ok _ _ _ _ _ _ ht.trd) ?_)
  rintro _ w41 ⟨rfl, x42⟩
  have z43 := x42.size
  replace hX := hX.ex x42
  replace hXL10 := Bel.ex hXL10 x42
  replace hown6 := hown6.ext x42
  replace hb10 := hb10.ext x42
  replace hb12 := hb12.ext x42
  replace hb14 := hb14.ext x42
  obtain ⟨dp, hdp⟩ : ∃ z, z = findO Y o.key true := ⟨_, rfl⟩
  rw [← hdp]
  refine Rr (o_moveh (v := .tuple _) rfl) ?_
  refine Rr (o_extract rfl rfl) ?_
  refine Rr (o_extract rfl rfl) ?_
  refine Rg_alst rfl rfl zeroValue44 rfl sizeOf44 (fun _ => rfl) rfl rfl ?_
  intro b16 w44 x45 hge16 hb16
  replace hown6 := hown6.mono (D' := fun g => n5 ≤ g ∧ g ≠ b8 ∧ g ≠ b9 ∧ g ≠ b10 ∧ g ≠ b12 ∧ g ≠ b14 ∧ g ≠ b16) (fun g h1 h2 => by omega)
  have hlt16 := hb16.lt
  change Box _ _ _ (encRo _) at hb16
  have z46 := x45.size
  replace hX := hX.ex x45
  replace hXL10 := Bel.ex hXL10 x45
  replace hown6 := hown6.ext x45
  replace hb10 := hb10.ext x45
  replace hb12 := hb12.ext x45
  replace hb14 := hb14.ext x45
  refine Rr (asB rfl) ?_
  refine Rg_nil (W_seq (W_region ?_))
  refine Rr (mvB rfl) ?_
  refine Rr (mvB rfl) ?_
  refine Rg_may 1 61 rfl rfl rfl (fun hg => (mvB rfl)) ?_
  refine Rr (o_or (u := undef) rfl rfl) ?_
  refine Rr (mvB rfl) ?_
  refine Rr (mvB rfl) ?_
  refine Rg_may 5 65 rfl rfl rfl (fun hg => (mvB rfl)) ?_
  refine Rr (o_or (u := undef) rfl rfl) ?_
  refine Rr (asB rfl) ?_
  refine Rr (asB rfl) ?_
  refine Rg_nil (W_seq (W_seq (W_region ?_)))
  refine Rr (mvB rfl) ?_
  refine Rr (mvB rfl) ?_
  refine Rg_may 1 69 rfl rfl rfl (fun hg => (mvB rfl)) ?_
  refine Rr (o_and (u := undef) rfl rfl) ?_
  refine Rr (mvB rfl) ?_
  refine Rg_may 4 72 rfl rfl rfl (fun hg => (mvB rfl)) ?_
  refine Rg_may 4 72 rfl rfl rfl (fun hg => (o_not (gsel (u := undef) hg))) ?_
  refine Rg_may 4 72 rfl rfl rfl (fun hg => (o_moveh (v := .bool _) (gsel (u := undef) hg))) ?_
  refine Rg_may2 7 75 rfl rfl rfl (fun hg => (o_fa underlying44 rfl sizeOf3 rfl)) ?_
  refine Rg_may2 7 75 rfl rfl rfl (fun hg => (o_load1 isAgg3 (gsel (u := undef) hg) (hb12.at.get 4 rfl))) ?_
  refine Rg_may2 7 75 rfl rfl rfl (fun hg => (o_fa underlying44 rfl sizeOf3 rfl)) ?_
  refine Rg_may2 7 75 rfl rfl rfl (fun hg => (o_load1 isAgg3 (gsel (u := undef) hg) (hb14.at.get 4 rfl))) ?_
  refine Rg_may2 7 75 rfl rfl rfl (fun hg => (o_neq (gsel (u := undef) hg) (gsel (u := undef) hg))) ?_
  refine Rg_may 4 72 rfl rfl rfl (fun hg => (o_or (u := undef) (gsel (u := undef) hg) (gand (u := undef) hg))) ?_
  refine Rr (o_and (u := undef) rfl rfl) ?_
  refine Rr (mvB rfl) ?_
  refine Rg_may 15 83 rfl rfl rfl (fun hg => (mvB rfl)) ?_
  refine Rg_may 15 83 rfl rfl rfl (fun hg => (o_moveh (v := .bool _) (gsel (u := undef) hg))) ?_
  refine Rg_may2 17 85 rfl rfl rfl (fun hg => (mvB rfl)) ?_
  refine Rg_may 15 83 rfl rfl rfl (fun hg => (o_and (u := undef) (gsel (u := undef) hg) (gand (u := undef) hg))) ?_
  refine Rg_may 15 83 rfl rfl rfl (fun hg => (o_moveh (v := .bool _) (gsel (u := undef) hg))) ?_
  refine Rg_may2 20 88 rfl rfl rfl (fun hg => (mvB rfl)) ?_
  refine Rg_may2 20 88 rfl rfl rfl (fun hg => (o_not (gsel (u := undef) hg))) ?_
  refine Rg_may 15 83 rfl rfl rfl (fun hg => (o_and (u := undef) (gsel (u := undef) hg) (gand (u := undef) hg))) ?_
  refine Rg_may 15 83 rfl rfl rfl (fun hg => (o_moveh (v := .bool _) (gsel (u := undef) hg))) ?_
  refine Rg_may2 24 92 rfl rfl rfl (fun hg => (mvB rfl)) ?_
  refine Rg_may 15 83 rfl rfl rfl (fun hg => (o_and (u := undef) (gsel (u := undef) hg) (gand (u := undef) hg))) ?_
  refine Rr (o_or (u := undef) rfl rfl) ?_
  refine Rg_nil ?_
  refine W_cond rfl (fun hc2 => ?_) (fun hc2 => ?_)
  ·have hbad : badR cm cp dm dp = true := hc2
   refine W_seq (W_region ?_)
   refine Rr o_assignc ?_
   refine Rr o_assignc ?_
   refine Rg_nil (W_ret ?_)
   refine ⟨_, res_tmp2 rfl rfl rfl, ?_⟩
   have e0 : thenS X Y = ([], 7) := by
    rw [← thenR_eq hX0 hY0]; exact thenR_bad hk1 (by rw [← ho]; show badR _ _ _ _ = true; rw [← hcm, ← hcp, ← hdm, ← hdp]; exact hbad)
   rw [e0]
   exact ⟨⟨_, rfl, Own.nil _ _⟩, hX⟩
  have hbad : badR cm cp dm dp = false := hc2
  refine W_skip (W_seq (W_region ?_))
  refine Rr (o_loadS isAgg44 sizeOf44 rfl hb10.at rfl) ?_
  refine Rr (mvB rfl) ?_
  refine Rg_alst rfl rfl zeroValue44 rfl sizeOf44 (fun _ => rfl) rfl rfl ?_
  intro b20 w47 x48 hge20 hb20
  replace hown6 := hown6.mono (D' := fun g => n5 ≤ g ∧ g ≠ b8 ∧ g ≠ b9 ∧ g ≠ b10 ∧ g ≠ b12 ∧ g ≠ b14 ∧ g ≠ b16 ∧ g ≠ b20) (fun g h1 h2 => by omega)
  have hlt20 := hb20.lt
  change Box _ _ _ (encRo _) at hb20
  have z49 := x48.size
  replace hX := hX.ex x48
  replace hXL10 := Bel.ex hXL10 x48
  replace hown6 := hown6.ext x48
  replace hb12 := hb12.ext x48
  replace hb14 := hb14.ext x48
  replace hb16 := hb16.ext x48
  refine Rr (asB rfl) ?_
  refine Rg_nil ?_
  refine W_join (α := Unit) [(21, 21), (98, 101)] (fun q => [(21, .bool (befR cm cp dm).isSome)]) (fun q w' => (True) ∧ Bel False (fun g => g = b20) w47 w' ∧ (Box w' b20 44 (encRo ((befR cm cp dm).getD coz)))) ?_ ?_
  ·have hXJ50 : Bel False (fun g => g = b20) w47 w47 := Bel.refl _ _
   refine W_seq (W_region ?_)
   refine Rr (mvB rfl) ?_
   refine Rr (o_not rfl) ?_
   refine Rg_nil ?_
   refine W_cond rfl (fun hc3 => ?_) (fun hc3 => ?_)
   ·have hin : (cm.isSome || cp.isSome) = false := Eq.mp (Bool.not_eq_true' _) hc3
    refine W_region ?_
    refine Rr (o_loadS isAgg44 sizeOf44 rfl hb14.at rfl) ?_
    refine Rr (mvB rfl) ?_
    refine Rg_storeW (v := .agg _) rfl sizeOf44 rfl rfl hb20 rfl rfl rfl ?_
    intro w51 c52 hb20
    change Box _ _ _ (encRo _) at hb20
    have z53 := Bel.size c52
    replace hX := Bel.out hX c52 om2
    replace hXL10 := Bel.out hXL10 c52 om2
    replace hXJ50 := Bel.out hXJ50 c52 om2
    refine Rr (asB rfl) ?_
    refine Rg_nil ?_
    refine ⟨(), ⟨?_, trivial⟩, oT, ⟨?_, hXJ50, ?_⟩⟩
    ·rw [befR, hin]; rfl
    ·trivial
    ·rw [befR, hin]; exact hb20
   have hin : (cm.isSome || cp.isSome) = true := Eq.mp (Bool.not_eq_false' _) hc3
   refine W_skip ?_
   refine ⟨(), ⟨?_, trivial⟩, oT, ⟨?_, hXJ50, ?_⟩⟩
   ·rw [befR, hin]; rfl
   ·trivial
   ·rw [befR, hin]; exact hb20
  rintro q fb55 w54 ⟨-, hXJ56, hb20⟩
  have z57 := Bel.size hXJ56
  replace hX := Bel.out hX hXJ56 om2
  replace hXL10 := Bel.out hXL10 hXJ56 om2
  replace hown6 := hown6.keepD hXJ56 om3
  replace hb12 := hb12.keep hXJ56 om1
  replace hb16 := hb16.keep hXJ56 om1
  
  refine W_seq (W_region ?_)
  refine Rr (o_loadS isAgg44 sizeOf44 rfl hb16.at rfl) ?_
  refine Rr (mvB rfl) ?_
  refine Rg_alst rfl rfl zeroValue44 rfl sizeOf44 (fun _ => rfl) rfl rfl ?_
  intro b22 w58 x59 hge22 hb22
  replace hown6 := hown6.mono (D' := fun g => n5 ≤ g ∧ g ≠ b8 ∧ g ≠ b9 ∧ g ≠ b10 ∧ g ≠ b12 ∧ g ≠ b14 ∧ g ≠ b16 ∧ g ≠ b20 ∧ g ≠ b22) (fun g h1 h2 => by omega)
  have hlt22 := hb22.lt
  change Box _ _ _ (encRo _) at hb22
  have z60 := x59.size
  replace hX := hX.ex x59
  replace hXL10 := Bel.ex hXL10 x59
  replace hown6 := hown6.ext x59
  replace hb12 := hb12.ext x59
  replace hb20 := hb20.ext x59
  refine Rr (asB rfl) ?_
  refine Rg_nil ?_
  refine W_join (α := Unit) [(23, 23), (104, 107)] (fun q => [(23, .bool (aftR cp dm dp).isSome)]) (fun q w' => (True) ∧ Bel False (fun g => g = b22) w58 w' ∧ (Box w' b22 44 (encRo ((aftR cp dm dp).getD coz)))) ?_ ?_
  ·have hXJ61 : Bel False (fun g => g = b22) w58 w58 := Bel.refl _ _
   refine W_seq (W_region ?_)
   refine Rr (mvB rfl) ?_
   refine Rr (o_not rfl) ?_
   refine Rg_nil ?_
   refine W_cond rfl (fun hc4 => ?_) (fun hc4 => ?_)
   ·have hid : (dm.isSome || dp.isSome) = false := Eq.mp (Bool.not_eq_true' _) hc4
    refine W_region ?_
    refine Rr (o_loadS isAgg44 sizeOf44 rfl hb12.at rfl) ?_
    refine Rr (mvB rfl) ?_
    refine Rg_storeW (v := .agg _) rfl sizeOf44 rfl rfl hb22 rfl rfl rfl ?_
    intro w62 c63 hb22
    change Box _ _ _ (encRo _) at hb22
    have z64 := Bel.size c63
    replace hX := Bel.out hX c63 om2
    replace hXL10 := Bel.out hXL10 c63 om2
    replace hXJ61 := Bel.out hXJ61 c63 om2
    refine Rr (asB rfl) ?_
    refine Rg_nil ?_
    refine ⟨(), ⟨?_, trivial⟩, oT, ⟨?_, hXJ61, ?_⟩⟩
    ·rw [aftR, hid]; rfl
    ·trivial
    ·rw [aftR, hid]; exact hb22
   have hid : (dm.isSome || dp.isSome) = true := Eq.mp (Bool.not_eq_false' _) hc4
   refine W_skip ?_
   refine ⟨(), ⟨?_, trivial⟩, oT, ⟨?_, hXJ61, ?_⟩⟩
   ·rw [aftR, hid]; rfl
   ·trivial
   ·rw [aftR, hid]; exact hb22
  rintro q fb66 w65 ⟨-, hXJ67, hb22⟩
  have z68 := Bel.size hXJ67
  replace hX := Bel.out hX hXJ67 om2
  replace hXL10 := Bel.out hXL10 hXJ67 om2
  replace hown6 := hown6.keepD hXJ67 om3
  replace hb20 := hb20.keep hXJ67 om1
  obtain ⟨bb, hbb⟩ : ∃ z, z = befR cm cp dm := ⟨_, rfl⟩
  obtain ⟨aa, haa⟩ : ∃ z, z = aftR cp dm dp := ⟨_, rfl⟩
  rw [← hbb] at hb20; rw [← haa] at hb22
  rw [← hbb, ← haa]
  have eb : bK X Y o.key = bb := by rw [hbb, hcm, hcp, hdm]; rfl
  have ea : aK X Y o.key = aa := by rw [haa, hcp, hdm, hdp]; rfl
  refine W_seq (W_seq (W_region ?_))
  refine Rr (mvB rfl) ?_
  refine Rr (mvB rfl) ?_
  refine Rg_may 1 109 rfl rfl rfl (fun hg => (mvB rfl)) ?_
  refine Rr (o_and (u := undef) rfl rfl) ?_
  refine Rr (mvB rfl) ?_
  refine Rg_may 4 112 rfl rfl rfl (fun hg => (o_fa underlying44 rfl sizeOf3 rfl)) ?_
  refine Rg_may 4 112 rfl rfl rfl (fun hg => (o_load1 isAgg3 (gsel (u := undef) hg) (hb20.at.get 4 rfl))) ?_
  refine Rg_may 4 112 rfl rfl rfl (fun hg => (o_fa underlying44 rfl sizeOf3 rfl)) ?_
  refine Rg_may 4 112 rfl rfl rfl (fun hg => (o_load1 isAgg3 (gsel (u := undef) hg) (hb22.at.get 4 rfl))) ?_
  refine Rg_may 4 112 rfl rfl rfl (fun hg => (o_eql (gsel (u := undef) hg) (gsel (u := undef) hg))) ?_
  refine Rr (o_and (u := undef) rfl rfl) ?_
  refine Rg_nil ?_
  refine W_cond rfl (fun hc5 => ?_) (fun hc5 => ?_)
  ·have hsm : sameR bb aa = true := hc5
   refine W_exit (exAt_hit (W_region ?_))
   refine Rr (o_add rfl rfl omg) ?_
   refine Rr (mvI rfl) ?_
   refine Rg_nil ?_
   refine ⟨(k + 1, t), ⟨sT, sT, trivial⟩, oT, ⟨?_, hXL10, ?_⟩, ?_⟩
   ·refine ⟨by show k + 1 ≤ (X ++ Y).length; omega, fun j hj => (Nat.lt_succ_iff_lt_or_eq.1 hj).elim (hall j) (fun e => ?_)⟩
    rw [e, ← ho]; show badR _ _ _ _ = false; rw [← hcm, ← hcp, ← hdm, ← hdp]; exact hbad
   ·rw [foldT_succ hk1, ← hU, ← ho, eb, ea]
    rw [stepT_same hsm]; exact hown6.mono (fun g h1 h2 => by omega)
   ·show (X ++ Y).length - (k + 1) < (X ++ Y).length - k; omega
  have hsm : sameR bb aa = false := hc5
  refine W_skip (W_seq (W_seq (W_region ?_)))
  refine Rr (mvB rfl) ?_
  refine Rr (mvB rfl) ?_
  refine Rg_may 1 120 rfl rfl rfl (fun hg => (o_moveh (v := t) rfl)) ?_
  refine Rg_may 1 120 rfl rfl rfl (fun hg => (o_loadS isAgg44 sizeOf44 rfl hb20.at rfl)) ?_
  refine Rg_mayCall 1 120 rfl rfl rfl (fun hg => ⟨(o_call2 call62 (gsel (u := undef) hg) (gsel (u := undef) hg)), rin_ok _ _ U (bb.getD coz) _ (hown6.trd encRo_ok)⟩) ?_
  intro w69 x70
  have z71 := x70.size
  replace hX := hX.ex x70
  replace hXL10 := Bel.ex hXL10 x70
  replace hown6 := hown6.ext x70
  replace hb20 := hb20.ext x70
  replace hb22 := hb22.ext x70
  refine Rg_may 1 120 rfl rfl rfl (fun hg => (o_not (gsel (u := undef) hg))) ?_
  refine Rr (o_and (u := undef) rfl rfl) ?_
  refine Rg_nil ?_
  refine W_cond rfl (fun hc6 => ?_) (fun hc6 => ?_)
  ·have hi1 : (bb.isSome && !decide (bb.getD coz ∈ U)) = true := hc6
   refine W_region ?_
   refine Rr (o_moveh (v := t) rfl) ?_
   refine Rr (o_loadS isAgg44 sizeOf44 rfl hb20.at rfl) ?_
   refine Rg_bs (vs := [.agg _]) ([bb.getD coz]) rfl encRo_ok el_ro rfl rfl ⟨rfl, trivial⟩ rfl rfl rfl rfl ?_
   intro a128 w72 x73 hown128
   have z74 := x73.size
   replace hX := hX.ex x73
   replace hXL10 := Bel.ex hXL10 x73
   replace hown6 := hown6.ext x73
   replace hb22 := hb22.ext x73
   replace hown128 := hown128.mono (D' := fun g => n5 ≤ g) (fun g h1 h2 => by omega)
   refine Rg_app rfl encRo_ok el_ro rfl rfl hown6 (hown128.slA encRo_ok) rfl (by rw [List.length_singleton]; omega) omU ?_
   intro v129 w75 x76 hown6
   have z77 := x76.size
   replace hX := Bel.out hX x76 om2
   replace hXL10 := Bel.out hXL10 x76 om2
   replace hb22 := hb22.keep x76 om1
   refine Rr (o_assignh (v := v129) rfl) ?_
   refine Rg_nil (W_seq (W_region ?_))
   refine Rr (mvB rfl) ?_
   refine Rr (mvB rfl) ?_
   refine Rg_may 1 131 rfl rfl rfl (fun hg => (o_moveh (v := v129) rfl)) ?_
   refine Rg_may 1 131 rfl rfl rfl (fun hg => (o_loadS isAgg44 sizeOf44 rfl hb22.at rfl)) ?_
   refine Rg_mayCall 1 131 rfl rfl rfl (fun hg => ⟨(o_call2 call62 (gsel (u := undef) hg) (gsel (u := undef) hg)), rin_ok _ _ (U ++ [bb.getD coz]) (aa.getD coz) _ (hown6.trd encRo_ok)⟩) ?_
   intro w78 x79
   have z80 := x79.size
   replace hX := hX.ex x79
   replace hXL10 := Bel.ex hXL10 x79
   replace hown6 := hown6.ext x79
   replace hb22 := hb22.ext x79
   refine Rg_may 1 131 rfl rfl rfl (fun hg => (o_not (gsel (u := undef) hg))) ?_
   refine Rr (o_and (u := undef) rfl rfl) ?_
   refine Rg_nil ?_
   refine W_cond rfl (fun hc7 => ?_) (fun hc7 => ?_)
   ·have hi2 : (aa.isSome && !decide (aa.getD coz ∈ U ++ [bb.getD coz])) = true := hc7
    refine W_region ?_
    refine Rr (o_moveh (v := v129) rfl) ?_
    refine Rr (o_loadS isAgg44 sizeOf44 rfl hb22.at rfl) ?_
    refine Rg_bs (vs := [.agg _]) ([aa.getD coz]) rfl encRo_ok el_ro rfl rfl ⟨rfl, trivial⟩ rfl rfl rfl rfl ?_
    intro a139 w81 x82 hown139
    have z83 := x82.size
    replace hX := hX.ex x82
    replace hXL10 := Bel.ex hXL10 x82
    replace hown6 := hown6.ext x82
    replace hown139 := hown139.mono (D' := fun g => n5 ≤ g) (fun g h1 h2 => by omega)
    refine Rg_app rfl encRo_ok el_ro rfl rfl hown6 (hown139.slA encRo_ok) rfl (by (first | rw [List.length_append, List.length_singleton, List.length_singleton] | rw [List.length_singleton]); omega) omU ?_
    intro v140 w84 x85 hown6
    have z86 := x85.size
    replace hX := Bel.out hX x85 om2
    replace hXL10 := Bel.out hXL10 x85 om2
    refine Rr (o_assignh (v := v140) rfl) ?_
    refine Rg_nil (W_region ?_)
    refine Rr (o_add rfl rfl omg) ?_
    refine Rr (mvI rfl) ?_
    refine Rg_nil ?_
    refine ⟨(k + 1, v140), ⟨sT, sT, trivial⟩, oT, ⟨?_, hXL10, ?_⟩, ?_⟩
    ·refine ⟨by show k + 1 ≤ (X ++ Y).length; omega, fun j hj => (Nat.lt_succ_iff_lt_or_eq.1 hj).elim (hall j) (fun e => ?_)⟩
     rw [e, ← ho]; show badR _ _ _ _ = false; rw [← hcm, ← hcp, ← hdm, ← hdp]; exact hbad
    ·rw [foldT_succ hk1, ← hU, ← ho, eb, ea]
     have e1 : addR' U bb = (U ++ [bb.getD coz]) := if_pos hi1
     have e2 : addR' (U ++ [bb.getD coz]) aa = (U ++ [bb.getD coz]) ++ [aa.getD coz] := if_pos hi2
     rw [stepT_add hsm, e1, e2]; exact hown6.mono (fun g h1 h2 => by omega)
    ·show (X ++ Y).length - (k + 1) < (X ++ Y).length - k; omega
   have hi2 : (aa.isSome && !decide (aa.getD coz ∈ U ++ [bb.getD coz])) = false := hc7
   refine W_skip (W_region ?_)
   refine Rr (o_add rfl rfl omg) ?_
   refine Rr (mvI rfl) ?_
   refine Rg_nil ?_
   refine ⟨(k + 1, v129), ⟨sT, sT, trivial⟩, oT, ⟨?_, hXL10, ?_⟩, ?_⟩
   ·refine ⟨by show k + 1 ≤ (X ++ Y).length; omega, fun j hj => (Nat.lt_succ_iff_lt_or_eq.1 hj).elim (hall j) (fun e => ?_)⟩
    rw [e, ← ho]; show badR _ _ _ _ = false; rw [← hcm, ← hcp, ← hdm, ← hdp]; exact hbad
   ·rw [foldT_succ hk1, ← hU, ← ho, eb, ea]
    have e1 : addR' U bb = (U ++ [bb.getD coz]) := if_pos hi1
    have e2 : addR' (U ++ [bb.getD coz]) aa = (U ++ [bb.getD coz]) := if_neg (by rw [hi2]; simp)
    rw [stepT_add hsm, e1, e2]; exact hown6.mono (fun g h1 h2 => by omega)
   ·show (X ++ Y).length - (k + 1) < (X ++ Y).length - k; omega
  have hi1 : (bb.isSome && !decide (bb.getD coz ∈ U)) = false := hc6
  refine W_skip (W_seq (W_region ?_))
  refine Rr (mvB rfl) ?_
  refine Rr (mvB rfl) ?_
  refine Rg_may 1 131 rfl rfl rfl (fun hg => (o_moveh (v := t) rfl)) ?_
  refine Rg_may 1 131 rfl rfl rfl (fun hg => (o_loadS isAgg44 sizeOf44 rfl hb22.at rfl)) ?_
  refine Rg_mayCall 1 131 rfl rfl rfl (fun hg => ⟨(o_call2 call62 (gsel (u := undef) hg) (gsel (u := undef) hg)), rin_ok _ _ U (aa.getD coz) _ (hown6.trd encRo_ok)⟩) ?_
  intro w87 x88
  have z89 := x88.size
  replace hX := hX.ex x88
  replace hXL10 := Bel.ex hXL10 x88
  replace hown6 := hown6.ext x88
  replace hb22 := hb22.ext x88
  refine Rg_may 1 131 rfl rfl rfl (fun hg => (o_not (gsel (u := undef) hg))) ?_
  refine Rr (o_and (u := undef) rfl rfl) ?_
  refine Rg_nil ?_
  refine W_cond rfl (fun hc8 => ?_) (fun hc8 => ?_)
  ·have hi2 : (aa.isSome && !decide (aa.getD coz ∈ U)) = true := hc8
   refine W_region ?_
   refine Rr (o_moveh (v := t) rfl) ?_
   refine Rr (o_loadS isAgg44 sizeOf44 rfl hb22.at rfl) ?_
   refine Rg_bs (vs := [.agg _]) ([aa.getD coz]) rfl encRo_ok el_ro rfl rfl ⟨rfl, trivial⟩ rfl rfl rfl rfl ?_
   intro a139 w90 x91 hown139
   have z92 := x91.size
   replace hX := hX.ex x91
   replace hXL10 := Bel.ex hXL10 x91
   replace hown6 := hown6.ext x91
   replace hown139 := hown139.mono (D' := fun g => n5 ≤ g) (fun g h1 h2 => by omega)
   refine Rg_app rfl encRo_ok el_ro rfl rfl hown6 (hown139.slA encRo_ok) rfl (by (first | rw [List.length_append, List.length_singleton, List.length_singleton] | rw [List.length_singleton]); omega) omU ?_
   intro v140 w93 x94 hown6
   have z95 := x94.size
   replace hX := Bel.out hX x94 om2
   replace hXL10 := Bel.out hXL10 x94 om2
   refine Rr (o_assignh (v := v140) rfl) ?_
   refine Rg_nil (W_region ?_)
   refine Rr (o_add rfl rfl omg) ?_
   refine Rr (mvI rfl) ?_
   refine Rg_nil ?_
   refine ⟨(k + 1, v140), ⟨sT, sT, trivial⟩, oT, ⟨?_, hXL10, ?_⟩, ?_⟩
   ·refine ⟨by show k + 1 ≤ (X ++ Y).length; omega, fun j hj => (Nat.lt_succ_iff_lt_or_eq.1 hj).elim (hall j) (fun e => ?_)⟩
    rw [e, ← ho]; show badR _ _ _ _ = false; rw [← hcm, ← hcp, ← hdm, ← hdp]; exact hbad
   ·rw [foldT_succ hk1, ← hU, ← ho, eb, ea]
    have e1 : addR' U bb = U := if_neg (by rw [hi1]; simp)
    have e2 : addR' U aa = U ++ [aa.getD coz] := if_pos hi2
    rw [stepT_add hsm, e1, e2]; exact hown6.mono (fun g h1 h2 => by omega)
   ·show (X ++ Y).length - (k + 1) < (X ++ Y).length - k; omega
  have hi2 : (aa.isSome && !decide (aa.getD coz ∈ U)) = false := hc8
  refine W_skip (W_region ?_)
  refine Rr (o_add rfl rfl omg) ?_
  refine Rr (mvI rfl) ?_
  refine Rg_nil ?_
  refine ⟨(k + 1, t), ⟨sT, sT, trivial⟩, oT, ⟨?_, hXL10, ?_⟩, ?_⟩
  ·refine ⟨by show k + 1 ≤ (X ++ Y).length; omega, fun j hj => (Nat.lt_succ_iff_lt_or_eq.1 hj).elim (hall j) (fun e => ?_)⟩
   rw [e, ← ho]; show badR _ _ _ _ = false; rw [← hcm, ← hcp, ← hdm, ← hdp]; exact hbad
  ·rw [foldT_succ hk1, ← hU, ← ho, eb, ea]
   have e1 : addR' U bb = U := if_neg (by rw [hi1]; simp)
   have e2 : addR' U aa = U := if_neg (by rw [hi2]; simp)
   rw [stepT_add hsm, e1, e2]; exact hown6.mono (fun g h1 h2 => by omega)
  ·show (X ++ Y).length - (k + 1) < (X ++ Y).length - k; omega
 have hk1 : ¬ k < (X ++ Y).length := by have := of_decide_eq_false hc1; omega
 refine W_exit (exAt_hit (W_seq (W_region ?_)))
 rw [hU, List.take_of_length_le (by omega)] at hown6
 refine Rr (o_moveh (v := t) rfl) ?_
 refine Rg_enter rfl (o_call1 call57 rfl) (Ok.mono (rsorted_ok _ _ (foldT X Y (X ++ Y)) (hown6.trd encRo_ok) (by have := foldT_le X Y (X ++ Y); omega) (foldT_ok hXp hYp _)) ?_)
 rintro v143 w96 ⟨hown143, x97⟩
 have z98 := x97.size
 replace hX := hX.ex x97
 replace hown143 := hown143.mono (D' := fun g => n5 ≤ g) (fun g h1 h2 => by omega)
 refine Rr (o_assignh (v := v143) rfl) ?_
 refine Rr o_assignc ?_
 refine Rg_nil (W_ret ?_)
 refine ⟨_, res_tmp2 rfl rfl rfl, ?_⟩
 have e0 : thenS X Y = (sortO (foldT X Y (X ++ Y)), 0) := by
  rw [← thenR_eq hX0 hY0]; exact thenR_good (fun j hj => hall j (by omega))
 rw [e0]
 exact ⟨⟨_, rfl, hown143.mono (fun g h1 h2 => by omega)⟩, hX⟩

end Go.Proofs.YtdnkjdmfnmdpdaaGreatDoor
