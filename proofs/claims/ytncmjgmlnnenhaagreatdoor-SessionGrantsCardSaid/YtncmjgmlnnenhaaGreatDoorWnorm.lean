/- Walks, printed by program: each theorem says what a function of the translation returns. -/
import Derived.Test.YtncmjgmlnnenhaaGreatDoorWperm
import Derived.Test.YtncmjgmlnnenhaaGreatDoorPure11
namespace Go.Proofs.YtncmjgmlnnenhaaGreatDoor
open Go Go.Lx Go.RowKit
set_option maxRecDepth 100000
set_option linter.unusedVariables false
set_option linter.unusedSimpArgs false
set_option linter.unnecessarySimpa false
theorem pidxf_ok (β : Prop) (a : Option Addr) (c : Nat) (B : Nat → Prop) (l : List Perm) (fid : FuncId) (cs : Array Value) (p : Perm → Bool) (w : World) (hs : Sl encP 3 B w a c l) (hent : ∀ args w, (callFunc fid args).run Tryz.prog w = .ok (.enter fid args) w) (hp : ∀ x ∈ l, ∀ w', Ext β w w' → Ok Tryz.prog fid (#[.agg (encP x).toArray] ++ cs) w' fun v w'' => v = .bool (p x) ∧ Ext β w' w'') : Ok Tryz.prog 158 #[.slice a l.length c, .func (.func fid) #[] cs] w fun v w' => v = .int .i64 (ixOf p l) ∧ Ext β w w' := by
  have hlen := hs.len
  refine Ok_of_W 19 Tryz.func158 rfl rfl rfl ?_
  have hX : Ext β w w := Bel.refl _ _
  refine W_seq (W_region ?_)
  refine Rg_run rfl o_assignc ?_
  refine Rg_nil (W_seq (W_seq (W_region ?_)))
  refine Rg_run rfl (o_moveh (v := .slice _ _ _) rfl) ?_
  refine Rg_run rfl (o_llen Tryz.underlying70 rfl) ?_
  refine Rg_run rfl o_movec ?_
  refine Rg_nil (W_block ?_)
  refine W_for (α := Nat) [(4, 5), (8, 18)] (fun k => [(8, .int .i64 (k : Int))]) (fun k w' => (k ≤ l.length ∧ (l.take k).any p = false) ∧ Ext β w w') (fun k => l.length - k) 0 ⟨rfl, trivial⟩ ⟨⟨by omega, by simp⟩, Bel.refl _ _⟩ ?_
  rintro k fb3 w2 ⟨⟨hk, hall⟩, hXL1⟩
  replace hX := Bel.ex hX hXL1
  replace hs := hs.ext hXL1
  refine W_seq (W_region ?_)
  refine Rg_run rfl (o_lss rfl rfl) ?_
  refine Rg_nil (W_seq ?_)
  refine W_cond rfl (fun hc1 => ?_) (fun hc1 => ?_)
  · skip
    first | replace hc1 := of_decide_eq_true hc1 | replace hc1 := bnot_t hc1 | skip
    refine W_skip (W_seq (W_block (W_seq (W_region ?_))))
    refine Rg_run rfl (o_moveh (v := .int _ _) rfl) ?_
    refine Rg_run rfl (o_assignh (v := .int _ _) rfl) ?_
    refine Rg_nil (W_seq (W_region ?_))
    refine Rg_run rfl (o_moveh (v := .func _ _ _) rfl) ?_
    refine Rg_run rfl (o_moveh (v := .slice _ _ _) rfl) ?_
    refine Rg_run rfl (o_moveh (v := .int _ _) rfl) ?_
    refine Rg_run rfl (o_iaR Tryz.underlying70 Tryz.sizeOf75 hs rfl rfl (by first | omega | (unfold I64; omega) | (simp; done) | (simp; omega) | (simp at *; omega))) ?_
    refine Rg_run rfl (o_ldRS Tryz.isAgg75 Tryz.sizeOf75 hs rfl (getElem?_of (by first | omega | assumption))) ?_
    refine Rg_enter rfl (o_clo1 hent rfl rfl) (Ok.mono (hp _ (List.getElem_mem _) _ hX) ?_)
    rintro _ w4 ⟨rfl, x5⟩
    replace hX := Bel.ex hX x5
    replace hXL1 := Bel.ex hXL1 x5
    replace hs := hs.ext x5
    refine Rg_nil ?_
    refine W_cond rfl (fun hc2 => ?_) (fun hc2 => ?_)
    · skip
      first | replace hc2 := of_decide_eq_true hc2 | replace hc2 := bnot_t hc2 | skip
      refine W_seq (W_region ?_)
      refine Rg_run rfl (o_moveh (v := .int _ _) rfl) ?_
      refine Rg_run rfl (o_assignh (v := .int _ _) rfl) ?_
      refine Rg_nil (W_ret ?_)
      refine ⟨_, res_tmp rfl rfl, ?_⟩
      refine ⟨congrArg (Value.int .i64) ?_, hX⟩
      all_goals (exact (ixOf_at (by omega) hall hc2).symm)
    first | replace hc2 := of_decide_eq_false hc2 | replace hc2 := bnot_f hc2 | skip
    refine W_skip (W_region ?_)
    refine Rg_run rfl (o_add rfl rfl (by first | omega | (unfold I64; omega) | (simp; done) | (simp; omega) | (simp at *; omega))) ?_
    refine Rg_run rfl (o_moveh (v := .int _ _) rfl) ?_
    refine Rg_nil ?_
    refine ⟨k + 1, ⟨?_, trivial⟩, ?_, ⟨?_, hXL1⟩, ?_⟩
    · first | rfl | (go_num) | (exact congrArg _ (by omega))
    · repeat (first | exact off_refl _ _ | exact off_mix | refine off_put rfl ?_ | refine off_putN ?_ | refine off_setL rfl ?_ | refine off_mix' rfl ?_)
    · exact ⟨by omega, anyT_succ (by omega) hall hc2⟩
    · omega
  first | replace hc1 := of_decide_eq_false hc1 | replace hc1 := bnot_f hc1 | skip
  refine W_exit (exAt_hit (W_seq (W_region ?_)))
  refine Rg_run rfl o_assignc ?_
  refine Rg_nil (W_ret ?_)
  refine ⟨_, res_tmp rfl rfl, ?_⟩
  refine ⟨congrArg (Value.int .i64) ?_, hX⟩
  all_goals (exact (ixOf_none (k := k) (by omega) hall).symm)

theorem pcontf_ok (β : Prop) (a : Option Addr) (c : Nat) (B : Nat → Prop) (l : List Perm) (fid : FuncId) (cs : Array Value) (p : Perm → Bool) (w : World) (hs : Sl encP 3 B w a c l) (hent : ∀ args w, (callFunc fid args).run Tryz.prog w = .ok (.enter fid args) w) (hp : ∀ x ∈ l, ∀ w', Ext β w w' → Ok Tryz.prog fid (#[.agg (encP x).toArray] ++ cs) w' fun v w'' => v = .bool (p x) ∧ Ext β w' w'') : Ok Tryz.prog 121 #[.slice a l.length c, .func (.func fid) #[] cs] w fun v w' => v = .bool (l.any p) ∧ Ext β w w' := by
  refine Ok_of_W 9 Tryz.func121 rfl rfl rfl ?_
  have hX : Ext β w w := Bel.refl _ _
  refine W_seq (W_region ?_)
  refine Rg_run rfl o_assignc ?_
  refine Rg_nil (W_seq (W_region ?_))
  refine Rg_run rfl (o_moveh (v := .slice _ _ _) rfl) ?_
  refine Rg_run rfl (o_moveh (v := .func _ _ _) rfl) ?_
  refine Rg_enter rfl (o_call2 Tryz.call158 rfl rfl) (Ok.mono (pidxf_ok (β) _ _ _ _ _ _ _ _ hs hent hp) ?_)
  rintro _ w1 ⟨rfl, x2⟩
  replace hX := Bel.ex hX x2
  replace hs := hs.ext x2
  refine Rg_run rfl (o_geq rfl rfl) ?_
  refine Rg_run rfl (o_assignh (v := .bool _) rfl) ?_
  refine Rg_nil (W_ret ?_)
  refine ⟨_, res_tmp rfl rfl, ?_⟩
  refine ⟨congrArg Value.bool ?_, hX⟩
  all_goals (exact ixOf_ge _ _)

theorem norm1_ok (β : Prop) (q x : Perm) (b : Nat) (w : World) (hq : q.ok) (hx : x.ok) (hb : At w b 0 (encP x)) : Ok Tryz.prog 122 #[.agg (encP q).toArray, .pointer (some ⟨b, 0, none⟩)] w fun v w' => v = .bool (!(q == x) && impliesS q x) ∧ Ext β w w' := by
  refine Ok_of_W 12 Tryz.func122 rfl rfl rfl ?_
  have hX : Ext β w w := Bel.refl _ _
  refine W_seq (W_region ?_)
  refine Rg_newB rfl (o_box (v := .agg _) rfl) ?_
  intro b2 w1 x2 hge2 hb2
  replace hX := Bel.ex hX x2
  replace hb := hb.ext x2
  refine Rg_run rfl o_assignc ?_
  refine Rg_nil (W_seq (W_region ?_))
  refine Rg_run rfl (o_loadS Tryz.isAgg75 Tryz.sizeOf75 rfl hb2.at rfl) ?_
  refine Rg_run rfl (o_loadS Tryz.isAgg75 Tryz.sizeOf75 rfl hb rfl) ?_
  refine Rg_run rfl (o_tneq eq_perm rfl rfl) ?_
  refine Rg_run rfl (o_moveh (v := .bool _) rfl) ?_
  refine Rg_may 3 7 rfl rfl rfl (fun hg => (o_loadS Tryz.isAgg75 Tryz.sizeOf75 rfl hb2.at rfl)) ?_
  refine Rg_may 3 7 rfl rfl rfl (fun hg => (o_loadS Tryz.isAgg75 Tryz.sizeOf75 rfl hb rfl)) ?_
  refine Rg_mayCall 3 7 rfl rfl rfl (fun hg => ⟨(o_call2 Tryz.call28 (gsel (u := undef) hg) (gsel (u := undef) hg)), implies_ok (β) _ (by first | assumption | omega | (simp; done) | (simp; omega) | (simp at *; omega)) _ (by first | assumption | omega | (simp; done) | (simp; omega) | (simp at *; omega)) _⟩) ?_
  intro w3 x4
  replace hX := Bel.ex hX x4
  replace hb := hb.ext x4
  replace hb2 := hb2.ext x4
  refine Rg_run rfl (o_and (u := undef) rfl rfl) ?_
  refine Rg_run rfl (o_assignh (v := .bool _) rfl) ?_
  refine Rg_nil (W_ret ?_)
  refine ⟨_, res_tmp rfl rfl, ?_⟩
  refine ⟨congrArg Value.bool ?_, hX⟩
  all_goals (rfl)

end Go.Proofs.YtncmjgmlnnenhaaGreatDoor
