/- Walks, printed by program: each theorem says what a function of the translation returns. -/
import Derived.Test.YtndlnfdaeipifaaGreatDoorWperm
import Derived.Test.YtndlnfdaeipifaaGreatDoorPerm0
namespace Go.Proofs.YtndlnfdaeipifaaGreatDoor
open Go Go.Lx Go.RowKit
set_option maxRecDepth 100000
set_option linter.unusedVariables false
set_option linter.unusedSimpArgs false
set_option linter.unnecessarySimpa false
theorem pidxf_ok (β : Prop) (a : Option Addr) (c : Nat) (B : Nat → Prop) (l : List Perm) (fid : FuncId) (cs : Array Value) (p : Perm → Bool) (w : World) (hs : Sl encP 3 B w a c l) (hent : ∀ args w, (callFunc fid args).run Tryz.prog w = .ok (.enter fid args) w) (hp : ∀ x ∈ l, ∀ w', Ext β w w' → Ok Tryz.prog fid (#[.agg (encP x).toArray] ++ cs) w' fun v w'' => v = .bool (p x) ∧ Ext β w' w'') : Ok Tryz.prog 160 #[.slice a l.length c, .func (.func fid) #[] cs] w fun v w' => v = .int .i64 (ixOf p l) ∧ Ext β w w' := by
  have hlen := hs.len
  refine Ok_of_W 19 Tryz.func160 rfl rfl rfl ?_
  have hX : Ext β w w := Bel.refl _ _
  refine W_seq ?_
  refine W_region ?_
  refine Rg_run rfl o_assignc ?_
  refine Rg_nil ?_
  refine W_seq ?_
  refine W_seq ?_
  refine W_region ?_
  refine Rg_run rfl (o_moveh (v := .slice _ _ _) rfl) ?_
  refine Rg_run rfl (o_llen Tryz.underlying46 rfl) ?_
  refine Rg_run rfl o_movec ?_
  refine Rg_nil ?_
  refine W_block ?_
  refine W_for (α := Nat) [(4, 5), (8, 18)] (fun k => [(8, .int .i64 (k : Int))]) (fun k w' => (k ≤ l.length ∧ (l.take k).any p = false) ∧ Ext β w w') (fun k => l.length - k) 0 ⟨rfl, trivial⟩ ⟨⟨by omega, by simp⟩, Bel.refl _ _⟩ ?_
  rintro k fb3 w2 ⟨⟨hk, hall⟩, hXL1⟩
  replace hX := Bel.ex hX hXL1
  replace hs := hs.ext hXL1
  refine W_seq ?_
  refine W_region ?_
  refine Rg_run rfl (o_lss rfl rfl) ?_
  refine Rg_nil ?_
  refine W_seq ?_
  refine W_cond rfl (fun hc1 => ?_) (fun hc1 => ?_)
  · skip
    first | replace hc1 := of_decide_eq_true hc1 | replace hc1 := bnot_t hc1 | skip
    refine W_skip ?_
    refine W_seq ?_
    refine W_block ?_
    refine W_seq ?_
    refine W_region ?_
    refine Rg_run rfl (o_moveh (v := .int _ _) rfl) ?_
    refine Rg_run rfl (o_assignh (v := .int _ _) rfl) ?_
    refine Rg_nil ?_
    refine W_seq ?_
    refine W_region ?_
    refine Rg_run rfl (o_moveh (v := .func _ _ _) rfl) ?_
    refine Rg_run rfl (o_moveh (v := .slice _ _ _) rfl) ?_
    refine Rg_run rfl (o_moveh (v := .int _ _) rfl) ?_
    refine Rg_run rfl (o_iaR Tryz.underlying46 Tryz.sizeOf52 hs rfl rfl (by first | omega | (unfold I64; omega) | (simp; done) | (simp; omega) | (simp at *; omega))) ?_
    refine Rg_run rfl (o_ldRS Tryz.isAgg52 Tryz.sizeOf52 hs rfl (getElem?_of (by first | omega | assumption))) ?_
    refine Rg_enter rfl (o_clo1 hent rfl rfl) (Ok.mono (hp _ (List.getElem_mem _) _ hX) ?_)
    rintro _ w4 ⟨rfl, x5⟩
    replace hX := Bel.ex hX x5
    replace hXL1 := Bel.ex hXL1 x5
    replace hs := hs.ext x5
    refine Rg_nil ?_
    refine W_cond rfl (fun hc2 => ?_) (fun hc2 => ?_)
    · skip
      first | replace hc2 := of_decide_eq_true hc2 | replace hc2 := bnot_t hc2 | skip
      refine W_seq ?_
      refine W_region ?_
      refine Rg_run rfl (o_moveh (v := .int _ _) rfl) ?_
      refine Rg_run rfl (o_assignh (v := .int _ _) rfl) ?_
      refine Rg_nil ?_
      refine W_ret ?_
      refine ⟨_, res_tmp rfl rfl, ?_⟩
      refine ⟨congrArg (Value.int .i64) ?_, hX⟩
      all_goals (exact (ixOf_at (by omega) hall hc2).symm)
    · skip
      first | replace hc2 := of_decide_eq_false hc2 | replace hc2 := bnot_f hc2 | skip
      refine W_skip ?_
      refine W_region ?_
      refine Rg_run rfl (o_add rfl rfl (by first | omega | (unfold I64; omega) | (simp; done) | (simp; omega) | (simp at *; omega))) ?_
      refine Rg_run rfl (o_moveh (v := .int _ _) rfl) ?_
      refine Rg_nil ?_
      refine ⟨k + 1, ⟨?_, trivial⟩, ?_, ⟨?_, hXL1⟩, ?_⟩
      · first | rfl | (go_num) | (exact congrArg _ (by omega))
      · repeat (first | exact off_refl _ _ | exact off_mix | refine off_put rfl ?_ | refine off_putN ?_ | refine off_setL rfl ?_ | refine off_mix' rfl ?_)
      · exact ⟨by omega, anyT_succ (by omega) hall hc2⟩
      · omega
  · skip
    first | replace hc1 := of_decide_eq_false hc1 | replace hc1 := bnot_f hc1 | skip
    refine W_exit ?_
    refine exAt_hit ?_
    refine W_seq ?_
    refine W_region ?_
    refine Rg_run rfl o_assignc ?_
    refine Rg_nil ?_
    refine W_ret ?_
    refine ⟨_, res_tmp rfl rfl, ?_⟩
    refine ⟨congrArg (Value.int .i64) ?_, hX⟩
    all_goals (exact (ixOf_none (k := k) (by omega) hall).symm)

theorem pcontf_ok (β : Prop) (a : Option Addr) (c : Nat) (B : Nat → Prop) (l : List Perm) (fid : FuncId) (cs : Array Value) (p : Perm → Bool) (w : World) (hs : Sl encP 3 B w a c l) (hent : ∀ args w, (callFunc fid args).run Tryz.prog w = .ok (.enter fid args) w) (hp : ∀ x ∈ l, ∀ w', Ext β w w' → Ok Tryz.prog fid (#[.agg (encP x).toArray] ++ cs) w' fun v w'' => v = .bool (p x) ∧ Ext β w' w'') : Ok Tryz.prog 121 #[.slice a l.length c, .func (.func fid) #[] cs] w fun v w' => v = .bool (l.any p) ∧ Ext β w w' := by
  refine Ok_of_W 9 Tryz.func121 rfl rfl rfl ?_
  have hX : Ext β w w := Bel.refl _ _
  refine W_seq ?_
  refine W_region ?_
  refine Rg_run rfl o_assignc ?_
  refine Rg_nil ?_
  refine W_seq ?_
  refine W_region ?_
  refine Rg_run rfl (o_moveh (v := .slice _ _ _) rfl) ?_
  refine Rg_run rfl (o_moveh (v := .func _ _ _) rfl) ?_
  refine Rg_enter rfl (o_call2 Tryz.call160 rfl rfl) (Ok.mono (pidxf_ok (β) _ _ _ _ _ _ _ _ hs hent hp) ?_)
  rintro _ w1 ⟨rfl, x2⟩
  replace hX := Bel.ex hX x2
  replace hs := hs.ext x2
  refine Rg_run rfl (o_geq rfl rfl) ?_
  refine Rg_run rfl (o_assignh (v := .bool _) rfl) ?_
  refine Rg_nil ?_
  refine W_ret ?_
  refine ⟨_, res_tmp rfl rfl, ?_⟩
  refine ⟨congrArg Value.bool ?_, hX⟩
  all_goals (exact ixOf_ge _ _)

theorem norm1_ok (β : Prop) (q x : Perm) (b : Nat) (w : World) (hq : q.ok) (hx : x.ok) (hb : At w b 0 (encP x)) : Ok Tryz.prog 122 #[.agg (encP q).toArray, .pointer (some ⟨b, 0, none⟩)] w fun v w' => v = .bool (!(q == x) && impliesS q x) ∧ Ext β w w' := by
  refine Ok_of_W 12 Tryz.func122 rfl rfl rfl ?_
  have hX : Ext β w w := Bel.refl _ _
  refine W_seq ?_
  refine W_region ?_
  refine Rg_newB rfl (o_box (v := .agg _) rfl) ?_
  intro b2 w1 x2 hge2 hb2
  replace hX := Bel.ex hX x2
  replace hb := hb.ext x2
  refine Rg_run rfl o_assignc ?_
  refine Rg_nil ?_
  refine W_seq ?_
  refine W_region ?_
  refine Rg_run rfl (o_loadS Tryz.isAgg52 Tryz.sizeOf52 rfl hb2.at rfl) ?_
  refine Rg_run rfl (o_loadS Tryz.isAgg52 Tryz.sizeOf52 rfl hb rfl) ?_
  refine Rg_run rfl (o_tneq eq_perm rfl rfl) ?_
  refine Rg_run rfl (o_moveh (v := .bool _) rfl) ?_
  refine Rg_may 3 7 rfl rfl rfl (fun hg => (o_loadS Tryz.isAgg52 Tryz.sizeOf52 rfl hb2.at rfl)) ?_
  refine Rg_may 3 7 rfl rfl rfl (fun hg => (o_loadS Tryz.isAgg52 Tryz.sizeOf52 rfl hb rfl)) ?_
  refine Rg_mayCall 3 7 rfl rfl rfl (fun hg => ⟨(o_call2 Tryz.call54 (gsel (u := undef) hg) (gsel (u := undef) hg)), implies_ok (β) _ (by first | assumption | omega | (simp; done) | (simp; omega) | (simp at *; omega)) _ (by first | assumption | omega | (simp; done) | (simp; omega) | (simp at *; omega)) _⟩) ?_
  intro w3 x4
  replace hX := Bel.ex hX x4
  replace hb := hb.ext x4
  replace hb2 := hb2.ext x4
  refine Rg_run rfl (o_and (u := undef) rfl rfl) ?_
  refine Rg_run rfl (o_assignh (v := .bool _) rfl) ?_
  refine Rg_nil ?_
  refine W_ret ?_
  refine ⟨_, res_tmp rfl rfl, ?_⟩
  refine ⟨congrArg Value.bool ?_, hX⟩
  all_goals (rfl)

theorem pequal_ok (β : Prop) (a b : Option Addr) (c d : Nat) (A B : Nat → Prop) (x y : List Perm) (w : World) (hx : Sl encP 3 A w a c x) (hy : Sl encP 3 B w b d y) : Ok Tryz.prog 84 #[.slice a x.length c, .slice b y.length d] w fun v w' => v = .bool (x == y) ∧ Ext β w w' := by
  have hlx := hx.len; have hly := hy.len
  refine Ok_of_W 26 Tryz.func84 rfl rfl rfl ?_
  have hX : Ext β w w := Bel.refl _ _
  refine W_seq ?_
  refine W_region ?_
  refine Rg_run rfl o_assignc ?_
  refine Rg_nil ?_
  refine W_seq ?_
  refine W_seq ?_
  refine W_region ?_
  refine Rg_run rfl (o_moveh (v := .slice _ _ _) rfl) ?_
  refine Rg_run rfl (o_llen Tryz.underlying46 rfl) ?_
  refine Rg_run rfl (o_moveh (v := .slice _ _ _) rfl) ?_
  refine Rg_run rfl (o_llen Tryz.underlying46 rfl) ?_
  refine Rg_run rfl (o_neq rfl rfl) ?_
  refine Rg_nil ?_
  refine W_cond rfl (fun hc1 => ?_) (fun hc1 => ?_)
  · skip
    first | replace hc1 := of_decide_eq_true hc1 | replace hc1 := bnot_t hc1 | skip
    refine W_seq ?_
    refine W_region ?_
    refine Rg_run rfl o_assignc ?_
    refine Rg_nil ?_
    refine W_ret ?_
    refine ⟨_, res_tmp rfl rfl, ?_⟩
    refine ⟨congrArg Value.bool ?_, hX⟩
    all_goals (exact (eqT_len (by simpa using hc1)).symm)
  · skip
    have hle : (x.length : Int) = y.length := by simpa using hc1
    refine W_skip ?_
    refine W_seq ?_
    refine W_seq ?_
    refine W_region ?_
    refine Rg_run rfl (o_moveh (v := .slice _ _ _) rfl) ?_
    refine Rg_run rfl (o_llen Tryz.underlying46 rfl) ?_
    refine Rg_run rfl o_movec ?_
    refine Rg_nil ?_
    refine W_block ?_
    refine W_for (α := Nat) [(4, 5), (13, 25)] (fun k => [(13, .int .i64 (k : Int))]) (fun k w' => (k ≤ x.length ∧ x.take k = y.take k) ∧ Ext β w w') (fun k => x.length - k) 0 ⟨rfl, trivial⟩ ⟨⟨by omega, by simp⟩, Bel.refl _ _⟩ ?_
    rintro k fb3 w2 ⟨⟨hk, hall⟩, hXL1⟩
    replace hX := Bel.ex hX hXL1
    replace hx := hx.ext hXL1
    replace hy := hy.ext hXL1
    refine W_seq ?_
    refine W_region ?_
    refine Rg_run rfl (o_lss rfl rfl) ?_
    refine Rg_nil ?_
    refine W_seq ?_
    refine W_cond rfl (fun hc2 => ?_) (fun hc2 => ?_)
    · skip
      first | replace hc2 := of_decide_eq_true hc2 | replace hc2 := bnot_t hc2 | skip
      refine W_skip ?_
      refine W_seq ?_
      refine W_block ?_
      refine W_seq ?_
      refine W_region ?_
      refine Rg_run rfl (o_moveh (v := .int _ _) rfl) ?_
      refine Rg_run rfl (o_assignh (v := .int _ _) rfl) ?_
      refine Rg_nil ?_
      refine W_seq ?_
      apply W_draw (β := β) [peq _, peq _, peq _, peq _, peq _, peq _, peq _, peq _, peq _] 9 mixed (by kernel_rfl) rfl ⟨peq_stable _, peq_stable _, peq_stable _, peq_stable _, peq_stable _, peq_stable _, peq_stable _, peq_stable _, peq_stable _, trivial⟩ ?ob6 ?fin6
      case ob6 =>
        refine OblL_cons (fun w4 x5 => ?_) ?_
        · skip
          refine bindP_nil ?_
          exact OpS_v rfl (o_moveh (v := .slice _ _ _) rfl)
        refine OblL_cons (fun w6 x7 => ?_) ?_
        · skip
          refine bindP_nil ?_
          exact OpS_v rfl (o_moveh (v := .int _ _) rfl)
        refine OblL_cons (fun w8 x9 => ?_) ?_
        · skip
          have hx := hx.ext x9
          refine bindP_eq ?_
          refine bindP_eq ?_
          refine bindP_nil ?_
          exact OpS_v rfl (o_iaR Tryz.underlying46 Tryz.sizeOf52 hx rfl rfl (by first | omega | (unfold I64; omega) | (simp; done) | (simp; omega) | (simp at *; omega)))
        refine OblL_cons (fun w10 x11 => ?_) ?_
        · skip
          have hx := hx.ext x11
          refine bindP_eq ?_
          refine bindP_nil ?_
          exact OpS_v rfl (o_ldRS Tryz.isAgg52 Tryz.sizeOf52 hx rfl (getE pz (by omega)))
        refine OblL_cons (fun w12 x13 => ?_) ?_
        · skip
          refine bindP_nil ?_
          exact OpS_v rfl (o_moveh (v := .slice _ _ _) rfl)
        refine OblL_cons (fun w14 x15 => ?_) ?_
        · skip
          refine bindP_nil ?_
          exact OpS_v rfl (o_moveh (v := .int _ _) rfl)
        refine OblL_cons (fun w16 x17 => ?_) ?_
        · skip
          have hy := hy.ext x17
          refine bindP_eq ?_
          refine bindP_eq ?_
          refine bindP_nil ?_
          exact OpS_v rfl (o_iaR Tryz.underlying46 Tryz.sizeOf52 hy rfl rfl (by first | omega | (unfold I64; omega) | (simp; done) | (simp; omega) | (simp at *; omega)))
        refine OblL_cons (fun w18 x19 => ?_) ?_
        · skip
          have hy := hy.ext x19
          refine bindP_eq ?_
          refine bindP_nil ?_
          exact OpS_v rfl (o_ldRS Tryz.isAgg52 Tryz.sizeOf52 hy rfl (getE pz (by omega)))
        refine OblL_cons (fun w20 x21 => ?_) ?_
        · skip
          refine bindP_eq ?_
          refine bindP_eq ?_
          refine bindP_nil ?_
          exact OpS_v rfl (o_tneq eq_perm rfl rfl)
        exact OblL_nil
      case fin6 =>
        intro w22 x23
        replace hX := Bel.ex hX x23
        replace hXL1 := Bel.ex hXL1 x23
        replace hx := hx.ext x23
        replace hy := hy.ext x23
        refine bindP_eq ?_
        refine bindP_eq ?_
        refine bindP_eq ?_
        refine bindP_eq ?_
        refine bindP_eq ?_
        refine bindP_eq ?_
        refine bindP_eq ?_
        refine bindP_eq ?_
        refine bindP_eq ?_
        refine bindP_nil ?_
        refine Rg_nil ?_
        refine W_cond rfl (fun hc3 => ?_) (fun hc3 => ?_)
        · skip
          first | replace hc3 := of_decide_eq_true hc3 | replace hc3 := bnot_t hc3 | skip
          refine W_seq ?_
          refine W_region ?_
          refine Rg_run rfl o_assignc ?_
          refine Rg_nil ?_
          refine W_ret ?_
          refine ⟨_, res_tmp rfl rfl, ?_⟩
          refine ⟨congrArg Value.bool ?_, hX⟩
          all_goals (exact (eqT_ne (k := k) (by simpa using hc3)).symm)
        · skip
          first | replace hc3 := of_decide_eq_false hc3 | replace hc3 := bnot_f hc3 | skip
          refine W_skip ?_
          refine W_region ?_
          refine Rg_run rfl (o_add rfl rfl (by first | omega | (unfold I64; omega) | (simp; done) | (simp; omega) | (simp at *; omega))) ?_
          refine Rg_run rfl (o_moveh (v := .int _ _) rfl) ?_
          refine Rg_nil ?_
          refine ⟨k + 1, ⟨?_, trivial⟩, ?_, ⟨?_, hXL1⟩, ?_⟩
          · first | rfl | (go_num) | (exact congrArg _ (by omega))
          · repeat (first | exact off_refl _ _ | exact off_mix | refine off_put rfl ?_ | refine off_putN ?_ | refine off_setL rfl ?_ | refine off_mix' rfl ?_)
          · exact ⟨by omega, eqT_succ (by omega) (by omega) hall (by simpa using hc3)⟩
          · omega
    · skip
      first | replace hc2 := of_decide_eq_false hc2 | replace hc2 := bnot_f hc2 | skip
      refine W_exit ?_
      refine exAt_hit ?_
      refine W_seq ?_
      refine W_region ?_
      refine Rg_run rfl o_assignc ?_
      refine Rg_nil ?_
      refine W_ret ?_
      refine ⟨_, res_tmp rfl rfl, ?_⟩
      refine ⟨congrArg Value.bool ?_, hX⟩
      all_goals (exact (eqT_end (k := k) (by omega) (by omega) hall).symm)

end Go.Proofs.YtndlnfdaeipifaaGreatDoor
