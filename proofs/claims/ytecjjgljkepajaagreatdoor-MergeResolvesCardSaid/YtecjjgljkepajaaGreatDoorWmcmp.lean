/- Walks: what functions return. -/
import Derived.Test.YtecjjgljkepajaaGreatDoorWcs
import Derived.Test.YtecjjgljkepajaaGreatDoorMg
import Derived.Test.YtecjjgljkepajaaGreatDoorWsrc
set_option linter.unusedVariables false
set_option linter.unusedSimpArgs false
set_option linter.unnecessarySimpa false
namespace Go.Proofs.YtecjjgljkepajaaGreatDoor
open Go Go.Lx Go.RowKit
set_option maxRecDepth 100000
theorem el_cc : ElT Tryz.prog 31 61 22 208 (.agg #[.int .u8 0, .int .i64 0, .int .i64 0, .string ⟨#[]⟩, .string ⟨#[]⟩, .bool false, .bool false, .int .u8 0, .int .i64 0, .int .i64 0, .int .i64 0, .string ⟨#[]⟩, .string ⟨#[]⟩, .bool false, .bool false, .int .u8 0, .int .i64 0, .int .i64 0, .int .i64 0, .string ⟨#[]⟩, .string ⟨#[]⟩, .bool false]) := ⟨Tryz.underlying31, ⟨Tryz.t61, by kernel_rfl, rfl, rfl, rfl⟩, rfl, by decide, by decide⟩
theorem el_rc : ElT Tryz.prog 34 98 22 224 (.agg #[.int .i64 0, .int .i64 0, .int .i64 0, .string ⟨#[]⟩, .string ⟨#[]⟩, .bool false, .bool false, .int .i64 0, .int .i64 0, .int .i64 0, .int .i64 0, .string ⟨#[]⟩, .string ⟨#[]⟩, .bool false, .bool false, .int .i64 0, .int .i64 0, .int .i64 0, .int .i64 0, .string ⟨#[]⟩, .string ⟨#[]⟩, .bool false]) := ⟨Tryz.underlying34, ⟨Tryz.t98, by kernel_rfl, rfl, rfl, rfl⟩, rfl, by decide, by decide⟩
theorem isnani_ok (β : Prop) (w : World) (x : Int) : Ok Tryz.prog 123 #[.int .i64 x] w fun v w' => v = .bool (false) ∧ Ext β w w' := by
 refine Ok_of_W 6 Tryz.func123 rfl rfl rfl ?_
 have hX : Ext β w w := Bel.refl _ _
 refine W_seq (W_region ?_)
 refine Rr o_assignc ?_
 refine Rg_nil (W_seq (W_region ?_))
 refine Rr (mvI rfl) ?_
 refine Rr (mvI rfl) ?_
 refine Rr (o_neq rfl rfl) ?_
 refine Rr (asB rfl) ?_
 refine Rg_nil (W_ret ?_)
 refine ⟨_, res_tmp rfl rfl, ?_⟩
 refine ⟨congrArg Value.bool ?_, hX⟩
 all_goals (simp)

theorem cmpi_ok (β : Prop) (w : World) (a : Int) (b : Int) : Ok Tryz.prog 90 #[.int .i64 a, .int .i64 b] w fun v w' => v = .int .i64 (cmpI a b) ∧ Ext β w w' := by
 refine Ok_of_W 20 Tryz.func90 rfl rfl rfl ?_
 have hX : Ext β w w := Bel.refl _ _
 refine W_seq (W_region ?_)
 refine Rr o_assignc ?_
 refine Rg_nil (W_seq (W_region ?_))
 refine Rr (mvI rfl) ?_
 refine Rg_enter rfl (o_call1 Tryz.call123 rfl) (Ok.mono (isnani_ok (β) _ _) ?_)
 rintro _ w1 ⟨rfl, x2⟩
 replace hX := hX.ex x2
 refine Rr (asB rfl) ?_
 refine Rg_nil (W_seq (W_region ?_))
 refine Rr (mvI rfl) ?_
 refine Rg_enter rfl (o_call1 Tryz.call123 rfl) (Ok.mono (isnani_ok (β) _ _) ?_)
 rintro _ w3 ⟨rfl, x4⟩
 replace hX := hX.ex x4
 refine Rr (asB rfl) ?_
 refine Rg_nil (W_seq (W_seq (W_region ?_)))
 refine Rr (mvB rfl) ?_
 refine Rg_nil ?_
 refine W_cond_false rfl ?_
 refine W_skip (W_seq (W_seq (W_region ?_)))
 refine Rr (mvB rfl) ?_
 refine Rg_nil ?_
 refine W_cond_false rfl ?_
 refine W_skip (W_seq (W_seq (W_region ?_)))
 refine Rr (mvI rfl) ?_
 refine Rr (mvI rfl) ?_
 refine Rr (o_lss rfl rfl) ?_
 refine Rg_nil ?_
 refine W_cond rfl (fun hc3 => ?_) (fun hc3 => ?_)
 ·refine W_seq (W_region ?_)
  refine Rr o_assignc ?_
  refine Rg_nil (W_ret ?_)
  refine ⟨_, res_tmp rfl rfl, ?_⟩
  refine ⟨congrArg (Value.int .i64) ?_, hX⟩
  all_goals (rw [cmpI, if_pos (of_decide_eq_true hc3)])
 refine W_skip (W_seq (W_seq (W_region ?_)))
 refine Rr (mvI rfl) ?_
 refine Rr (mvI rfl) ?_
 refine Rr (o_gtr rfl rfl) ?_
 refine Rg_nil ?_
 refine W_cond rfl (fun hc4 => ?_) (fun hc4 => ?_)
 ·refine W_seq (W_region ?_)
  refine Rr o_assignc ?_
  refine Rg_nil (W_ret ?_)
  refine ⟨_, res_tmp rfl rfl, ?_⟩
  refine ⟨congrArg (Value.int .i64) ?_, hX⟩
  all_goals (rw [cmpI, if_neg (of_decide_eq_false hc3), if_pos (of_decide_eq_true hc4)])
 refine W_skip (W_seq (W_region ?_))
 refine Rr o_assignc ?_
 refine Rg_nil (W_ret ?_)
 refine ⟨_, res_tmp rfl rfl, ?_⟩
 refine ⟨congrArg (Value.int .i64) ?_, hX⟩
 all_goals (rw [cmpI, if_neg (of_decide_eq_false hc3), if_neg (of_decide_eq_false hc4)])

theorem isnank_ok (β : Prop) (x : Int) (w : World) : Ok Tryz.prog 122 #[.int .u8 x] w fun v w' => v = .bool false ∧ Ext β w w' := by
 refine Ok_of_W 6 Tryz.func122 rfl rfl rfl ?_
 have hX : Ext β w w := Bel.refl _ _
 refine W_seq (W_region ?_)
 refine Rr o_assignc ?_
 refine Rg_nil (W_seq (W_region ?_))
 refine Rr (mvI rfl) ?_
 refine Rr (mvI rfl) ?_
 refine Rr (o_neq rfl rfl) ?_
 refine Rr (asB rfl) ?_
 refine Rg_nil (W_ret ?_)
 refine ⟨_, res_tmp rfl rfl, ?_⟩
 refine ⟨congrArg Value.bool ?_, hX⟩
 all_goals (simp)

theorem cmpk_ok (β : Prop) (a b : Int) (w : World) : Ok Tryz.prog 89 #[.int .u8 a, .int .u8 b] w fun v w' => v = .int .i64 (cmpI a b) ∧ Ext β w w' := by
 refine Ok_of_W 20 Tryz.func89 rfl rfl rfl ?_
 have hX : Ext β w w := Bel.refl _ _
 refine W_seq (W_region ?_)
 refine Rr o_assignc ?_
 refine Rg_nil (W_seq (W_region ?_))
 refine Rr (mvI rfl) ?_
 refine Rg_enter rfl (o_call1 Tryz.call122 rfl) (Ok.mono (isnank_ok (β) _ _) ?_)
 rintro _ w1 ⟨rfl, x2⟩
 replace hX := hX.ex x2
 refine Rr (asB rfl) ?_
 refine Rg_nil (W_seq (W_region ?_))
 refine Rr (mvI rfl) ?_
 refine Rg_enter rfl (o_call1 Tryz.call122 rfl) (Ok.mono (isnank_ok (β) _ _) ?_)
 rintro _ w3 ⟨rfl, x4⟩
 replace hX := hX.ex x4
 refine Rr (asB rfl) ?_
 refine Rg_nil (W_seq (W_seq (W_region ?_)))
 refine Rr (mvB rfl) ?_
 refine Rg_nil ?_
 refine W_cond_false rfl ?_
 refine W_skip (W_seq (W_seq (W_region ?_)))
 refine Rr (mvB rfl) ?_
 refine Rg_nil ?_
 refine W_cond_false rfl ?_
 refine W_skip (W_seq (W_seq (W_region ?_)))
 refine Rr (mvI rfl) ?_
 refine Rr (mvI rfl) ?_
 refine Rr (o_lss rfl rfl) ?_
 refine Rg_nil ?_
 refine W_cond rfl (fun hc3 => ?_) (fun hc3 => ?_)
 ·refine W_seq (W_region ?_)
  refine Rr o_assignc ?_
  refine Rg_nil (W_ret ?_)
  refine ⟨_, res_tmp rfl rfl, ?_⟩
  refine ⟨congrArg (Value.int .i64) ?_, hX⟩
  all_goals (rw [cmpI, if_pos (of_decide_eq_true hc3)])
 refine W_skip (W_seq (W_seq (W_region ?_)))
 refine Rr (mvI rfl) ?_
 refine Rr (mvI rfl) ?_
 refine Rr (o_gtr rfl rfl) ?_
 refine Rg_nil ?_
 refine W_cond rfl (fun hc4 => ?_) (fun hc4 => ?_)
 ·refine W_seq (W_region ?_)
  refine Rr o_assignc ?_
  refine Rg_nil (W_ret ?_)
  refine ⟨_, res_tmp rfl rfl, ?_⟩
  refine ⟨congrArg (Value.int .i64) ?_, hX⟩
  all_goals (rw [cmpI, if_neg (of_decide_eq_false hc3), if_pos (of_decide_eq_true hc4)])
 refine W_skip (W_seq (W_region ?_))
 refine Rr o_assignc ?_
 refine Rg_nil (W_ret ?_)
 refine ⟨_, res_tmp rfl rfl, ?_⟩
 refine ⟨congrArg (Value.int .i64) ?_, hX⟩
 all_goals (rw [cmpI, if_neg (of_decide_eq_false hc3), if_neg (of_decide_eq_false hc4)])

theorem cmpor_ok (β : Prop) (a : Option Addr) (c : Nat) (G : Nat → Prop) (l : List Int) (w : World) (hs : Sl encJ 1 G w a c l) : Ok Tryz.prog 88 #[.slice a l.length c] w fun v w' => v = .int .i64 (orQ l) ∧ Ext β w w' := by
 have hlen := hs.len
 replace hs := hs.mono (F' := fun g => g < w.heap.size) (fun g h1 h2 => h1)
 refine Ok_of_W 18 Tryz.func88 rfl rfl rfl ?_
 have hX : Ext β w w := Bel.refl _ _
 refine W_seq (W_region ?_)
 refine Rr o_assignc ?_
 refine Rg_nil (W_seq (W_region ?_))
 refine Rr o_assignc ?_
 refine Rg_nil (W_seq (W_seq (W_region ?_)))
 refine Rr (mvS rfl) ?_
 refine Rr (o_llen Tryz.underlying130 rfl) ?_
 refine Rr o_movec ?_
 refine Rg_nil (W_block ?_)
 refine W_for (α := Nat) [(2, 2), (5, 5), (8, 16)] (fun k => [(8, .int .i64 (k : Int))]) (fun k w' => (k ≤ l.length ∧ ∀ j, j < k → l.getD j 0 = 0) ∧ Ext β w w') (fun k => l.length - k) 0 ⟨rfl, trivial⟩ ⟨⟨Nat.zero_le _, fun j h => absurd h (Nat.not_lt_zero _)⟩, Bel.refl _ _⟩ ?_
 rintro k fb3 w2 ⟨⟨hk, hall⟩, hXL1⟩
 replace hX := hX.ex hXL1
 replace hs := hs.ext hXL1
 refine W_seq (W_region ?_)
 refine Rr (o_lss rfl rfl) ?_
 refine Rg_nil (W_seq ?_)
 refine W_cond rfl (fun hc1 => ?_) (fun hc1 => ?_)
 ·replace hc1 := of_decide_eq_true hc1
  refine W_skip (W_seq (W_block (W_seq (W_region ?_))))
  refine Rr (o_iaR Tryz.underlying130 Tryz.sizeOf3 hs rfl rfl (by first | omega | (unfold I64; omega) | (simp; done) | (simp; omega) | (simp at *; omega))) ?_
  refine Rr (o_ldR Tryz.isAgg3 hs rfl rfl (getE 0 (by omega)) rfl) ?_
  refine Rr (asI rfl) ?_
  refine Rg_nil (W_seq (W_region ?_))
  refine Rr (mvI rfl) ?_
  refine Rr (mvI rfl) ?_
  refine Rr (o_neq rfl rfl) ?_
  refine Rg_nil ?_
  refine W_cond rfl (fun hc2 => ?_) (fun hc2 => ?_)
  ·have hne : l.getD k 0 ≠ 0 := by simpa using hc2
   refine W_seq (W_region ?_)
   refine Rr (mvI rfl) ?_
   refine Rr (asI rfl) ?_
   refine Rg_nil (W_ret ?_)
   refine ⟨_, res_tmp rfl rfl, ?_⟩
   refine ⟨congrArg (Value.int .i64) ?_, hX⟩
   all_goals (exact (orQ_at (by omega) hall hne).symm)
  have heq : l.getD k 0 = 0 := by simpa using hc2
  refine W_skip (W_region ?_)
  refine Rr (o_add rfl rfl (by first | omega | (unfold I64; omega) | (simp; done) | (simp; omega) | (simp at *; omega))) ?_
  refine Rr (mvI rfl) ?_
  refine Rg_nil ?_
  refine ⟨k + 1, ⟨?_, trivial⟩, ?_, ⟨?_, hXL1⟩, ?_⟩
  ·first | rfl | (go_num) | (exact congrArg _ (by omega))
  ·repeat (first | exact oR _ _ | exact oM | refine oP rfl ?_ | refine oN ?_ | refine oL rfl ?_ | refine oX rfl ?_)
  ·exact ⟨by omega, fun j hj => (Nat.lt_succ_iff_lt_or_eq.1 hj).elim (hall j) (fun e => e ▸ heq)⟩
  ·omega
 replace hc1 := of_decide_eq_false hc1
 refine W_exit (exAt_hit (W_seq (W_region ?_)))
 refine Rr (mvI rfl) ?_
 refine Rr (asI rfl) ?_
 refine Rg_nil (W_ret ?_)
 refine ⟨_, res_tmp rfl rfl, ?_⟩
 refine ⟨congrArg (Value.int .i64) ?_, hX⟩
 all_goals (exact (orQ_none fun j hj => hall j (by omega)).symm)

theorem mcmp_ok (β : Prop) (x y : OKey) (hx : Kr x) (hy : Kr y) (w : World) : Ok Tryz.prog 60 #[.agg (encCk x).toArray, .agg (encCk y).toArray] w fun v w' => v = .int .i64 (cmpKq x y) ∧ Ext β w w' := by
 refine Ok_of_W 27 Tryz.func60 rfl rfl rfl ?_
 have hX : Ext β w w := Bel.refl _ _
 refine W_seq (W_region ?_)
 refine Rg_newB rfl (o_box (v := .agg _) rfl) ?_
 intro b2 w1 x2 hge2 hb2
 change Box _ _ _ (encCk _) at hb2
 replace hX := hX.ex x2
 refine Rg_newB rfl (o_box (v := .agg _) rfl) ?_
 intro b3 w3 x4 hge3 hb3
 change Box _ _ _ (encCk _) at hb3
 replace hX := hX.ex x4
 replace hb2 := hb2.ext x4
 refine Rr o_assignc ?_
 refine Rg_nil (W_seq ?_)
 apply W_drawC (β := β) (fun _ => 0) [peqC _, peqC _, peqC _, peqC _, peqC _, peqC _, peqC _, peqC _, peqC _, peqC _, peqC _, peqC _, peqC _, peqC _, peqC _, peqC _, peqC _, peqC _, peqC _, peqC _, (fun v w c => ∃ a, v = .slice a 4 4 ∧ postOwn encJ 1 3 0 [cmpI x.k y.k, cmpI x.a y.a, cmpI x.b y.b, cmpM x.p y.p] v w c), peqC _] [0, 0, 0, 0, 0, 0, 0, 0, 0, 0, 0, 0, 0, 0, 0, 0, 0, 0, 0, 0, 0, 0] 22 mixed (by kernel_rfl) (by kernel_rfl) rfl ⟨peqC_stable _ _, peqC_stable _ _, peqC_stable _ _, peqC_stable _ _, peqC_stable _ _, peqC_stable _ _, peqC_stable _ _, peqC_stable _ _, peqC_stable _ _, peqC_stable _ _, peqC_stable _ _, peqC_stable _ _, peqC_stable _ _, peqC_stable _ _, peqC_stable _ _, peqC_stable _ _, peqC_stable _ _, peqC_stable _ _, peqC_stable _ _, peqC_stable _ _, (postBs_stable), peqC_stable _ _, trivial⟩ ?ob1 ?fin1
 case ob1 =>
  refine OblC_cons (fun w5 c7 x6 hc08 hk9 => ?_) ?_
  ·replace x6 := RelG.ext0 x6
   refine bindC_nil ?_
   exact OpC_v rfl (o_fa Tryz.underlying57 rfl Tryz.sizeOf53 rfl)
  refine OblC_cons (fun w10 c12 x11 hc013 hk14 => ?_) ?_
  ·replace x11 := RelG.ext0 x11
   have hb2 := hb2.ext x11
   refine bindC_eq (bindC_nil ?_)
   exact OpC_v rfl (o_load1 Tryz.isAgg53 rfl (hb2.at.get 0 rfl))
  refine OblC_cons (fun w15 c17 x16 hc018 hk19 => ?_) ?_
  ·replace x16 := RelG.ext0 x16
   refine bindC_nil ?_
   exact OpC_v rfl (o_fa Tryz.underlying57 rfl Tryz.sizeOf53 rfl)
  refine OblC_cons (fun w20 c22 x21 hc023 hk24 => ?_) ?_
  ·replace x21 := RelG.ext0 x21
   have hb3 := hb3.ext x21
   refine bindC_eq (bindC_nil ?_)
   exact OpC_v rfl (o_load1 Tryz.isAgg53 rfl (hb3.at.get 0 rfl))
  refine OblC_cons (fun w25 c27 x26 hc028 hk29 => ?_) ?_
  ·replace x26 := RelG.ext0 x26
   refine bindC_eq (bindC_eq (bindC_nil ?_))
   exact OpC_call rfl (o_call2 Tryz.call89 rfl rfl) (cmpk_ok (β) _ _ _)
  refine OblC_cons (fun w30 c32 x31 hc033 hk34 => ?_) ?_
  ·replace x31 := RelG.ext0 x31
   refine bindC_nil ?_
   exact OpC_v rfl (o_fa Tryz.underlying57 rfl Tryz.sizeOf3 rfl)
  refine OblC_cons (fun w35 c37 x36 hc038 hk39 => ?_) ?_
  ·replace x36 := RelG.ext0 x36
   have hb2 := hb2.ext x36
   refine bindC_eq (bindC_nil ?_)
   exact OpC_v rfl (o_load1 Tryz.isAgg3 rfl (hb2.at.get 1 rfl))
  refine OblC_cons (fun w40 c42 x41 hc043 hk44 => ?_) ?_
  ·replace x41 := RelG.ext0 x41
   refine bindC_nil ?_
   exact OpC_v rfl (o_fa Tryz.underlying57 rfl Tryz.sizeOf3 rfl)
  refine OblC_cons (fun w45 c47 x46 hc048 hk49 => ?_) ?_
  ·replace x46 := RelG.ext0 x46
   have hb3 := hb3.ext x46
   refine bindC_eq (bindC_nil ?_)
   exact OpC_v rfl (o_load1 Tryz.isAgg3 rfl (hb3.at.get 1 rfl))
  refine OblC_cons (fun w50 c52 x51 hc053 hk54 => ?_) ?_
  ·replace x51 := RelG.ext0 x51
   refine bindC_eq (bindC_eq (bindC_eq (bindC_nil ?_)))
   exact OpC_call rfl (o_call2 Tryz.call90 rfl rfl) (cmpi_ok (β) _ _ _)
  refine OblC_cons (fun w55 c57 x56 hc058 hk59 => ?_) ?_
  ·replace x56 := RelG.ext0 x56
   refine bindC_nil ?_
   exact OpC_v rfl (o_fa Tryz.underlying57 rfl Tryz.sizeOf3 rfl)
  refine OblC_cons (fun w60 c62 x61 hc063 hk64 => ?_) ?_
  ·replace x61 := RelG.ext0 x61
   have hb2 := hb2.ext x61
   refine bindC_eq (bindC_nil ?_)
   exact OpC_v rfl (o_load1 Tryz.isAgg3 rfl (hb2.at.get 2 rfl))
  refine OblC_cons (fun w65 c67 x66 hc068 hk69 => ?_) ?_
  ·replace x66 := RelG.ext0 x66
   refine bindC_nil ?_
   exact OpC_v rfl (o_fa Tryz.underlying57 rfl Tryz.sizeOf3 rfl)
  refine OblC_cons (fun w70 c72 x71 hc073 hk74 => ?_) ?_
  ·replace x71 := RelG.ext0 x71
   have hb3 := hb3.ext x71
   refine bindC_eq (bindC_nil ?_)
   exact OpC_v rfl (o_load1 Tryz.isAgg3 rfl (hb3.at.get 2 rfl))
  refine OblC_cons (fun w75 c77 x76 hc078 hk79 => ?_) ?_
  ·replace x76 := RelG.ext0 x76
   refine bindC_eq (bindC_eq (bindC_eq (bindC_nil ?_)))
   exact OpC_call rfl (o_call2 Tryz.call90 rfl rfl) (cmpi_ok (β) _ _ _)
  refine OblC_cons (fun w80 c82 x81 hc083 hk84 => ?_) ?_
  ·replace x81 := RelG.ext0 x81
   refine bindC_nil ?_
   exact OpC_v rfl (o_fa Tryz.underlying57 rfl Tryz.sizeOf55 rfl)
  refine OblC_cons (fun w85 c87 x86 hc088 hk89 => ?_) ?_
  ·replace x86 := RelG.ext0 x86
   have hb2 := hb2.ext x86
   refine bindC_eq (bindC_nil ?_)
   exact OpC_v rfl (o_loadS Tryz.isAgg55 Tryz.sizeOf55 rfl (hb2.at.sub 3 3) rfl)
  refine OblC_cons (fun w90 c92 x91 hc093 hk94 => ?_) ?_
  ·replace x91 := RelG.ext0 x91
   refine bindC_nil ?_
   exact OpC_v rfl (o_fa Tryz.underlying57 rfl Tryz.sizeOf55 rfl)
  refine OblC_cons (fun w95 c97 x96 hc098 hk99 => ?_) ?_
  ·replace x96 := RelG.ext0 x96
   have hb3 := hb3.ext x96
   refine bindC_eq (bindC_nil ?_)
   exact OpC_v rfl (o_loadS Tryz.isAgg55 Tryz.sizeOf55 rfl (hb3.at.sub 3 3) rfl)
  refine OblC_cons (fun w100 c102 x101 hc0103 hk104 => ?_) ?_
  ·replace x101 := RelG.ext0 x101
   refine bindC_eq (bindC_eq (bindC_eq (bindC_nil ?_)))
   exact OpC_call rfl (o_call2 Tryz.call91 rfl rfl) (pmcompare_ok (β) _ hx.ok _ hy.ok _)
  refine OblC_cons (fun w105 c107 x106 hc0108 hk109 => ?_) ?_
  ·replace x106 := RelG.ext0 x106
   refine bindC_eq (bindC_eq (bindC_eq (bindC_eq (bindC_nil ?_))))
   exact OpC_bs (vs := [.int _ _, .int _ _, .int _ _, .int _ _]) [cmpI x.k y.k, cmpI x.a y.a, cmpI x.b y.b, cmpM x.p y.p] encJ_ok el_int rfl rfl ⟨rfl, rfl, rfl, rfl, trivial⟩ rfl rfl rfl rfl
  refine OblC_cons (fun w110 c112 x111 hc0113 hk114 => ?_) ?_
  ·replace x111 := RelG.ext0 x111
   refine bindC_mem (fun v25 hv25 => ?_)
   obtain ⟨a25, rfl, ho25⟩ := hv25
   refine bindC_eq (bindC_nil ?_)
   exact OpC_call rfl (o_call1 Tryz.call88 rfl) (cmpor_ok (β) a25 4 _ [cmpI x.k y.k, cmpI x.a y.a, cmpI x.b y.b, cmpM x.p y.p] _ (Own.slA ho25 encJ_ok))
  exact OblC_nil
 case fin1 =>
  intro w115 c117 x116 hc0118
  replace x116 := RelG.ext0 x116
  replace hX := hX.ex x116
  refine bindC_eq (bindC_eq (bindC_eq (bindC_eq (bindC_eq (bindC_eq (bindC_eq (bindC_eq (bindC_eq ?_))))))))
  refine bindC_eq (bindC_eq (bindC_eq (bindC_eq (bindC_eq (bindC_eq (bindC_eq (bindC_eq (bindC_eq ?_))))))))
  refine bindC_eq (bindC_eq ?_)
  refine bindC_mem (fun v25 hv25 => ?_)
  obtain ⟨a25, rfl, ho25⟩ := hv25
  refine bindC_eq (bindC_nil ?_)
  refine Rr (asI rfl) ?_
  refine Rg_nil (W_ret ?_)
  refine ⟨_, res_tmp rfl rfl, ?_⟩
  refine ⟨congrArg (Value.int .i64) ?_, hX⟩
  all_goals (rfl)

end Go.Proofs.YtecjjgljkepajaaGreatDoor
