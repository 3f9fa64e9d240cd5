/- Walks, printed by program: each theorem says what a function of the translation returns. -/
import Derived.Test.YtncmjgmlnnenhaaGreatDoorWsli
import Derived.Test.YtncmjgmlnnenhaaGreatDoorWref10
import Derived.Test.YtncmjgmlnnenhaaGreatDoorWod
namespace Go.Proofs.YtncmjgmlnnenhaaGreatDoor
open Go Go.Lx Go.RowKit
set_option maxRecDepth 100000
set_option linter.unusedVariables false
set_option linter.unusedSimpArgs false
set_option linter.unnecessarySimpa false
theorem bwithout_ok (w : World) (s : SV) (Gs : Nat → Prop) (hs : Sl encU 1 Gs w s.a s.c (wl s.x)) (i : Nat) (hi : i < 64) (hb : s.x.getLsbD i = true) : Ok Tryz.prog 49 #[.agg (encSV s).toArray, .int .i64 (i : Int)] w fun v w' => ∃ a c, v = .agg (encSV ⟨a, c, s.x &&& ~~~(oneW i)⟩).toArray ∧ Sl encU 1 (Fsh w w') w' a c (wl (s.x &&& ~~~(oneW i))) ∧ Ext False w w' := by
  replace hs := hs.mono (F' := fun g => Gs g ∧ g < w.heap.size) (fun g h1 h2 => ⟨h2, h1⟩)
  have hw1 : wl s.x = [s.x] := wl_some (by rintro e; rw [e] at hb; simp at hb)
  have hl1 : (wl s.x).length = 1 := by rw [hw1]; rfl
  refine Ok_of_W 27 Tryz.func49 rfl rfl rfl ?_
  have hX : Ext False w w := Bel.refl _ _
  refine W_seq (W_region ?_)
  refine Rg_newB rfl (o_box (v := .agg _) rfl) ?_
  intro b2 w1 x2 hge2 hb2
  have hlt2 := hb2.lt
  change Box _ _ _ (encSV _) at hb2
  have z3 := Bel.size x2
  replace hX := Bel.ex hX x2
  replace hs := hs.ext x2
  refine Rg_newB rfl (o_alloc Tryz.zeroValue36) ?_
  intro b4 w4 x5 hge4 hb4
  have hlt4 := hb4.lt
  change Box _ _ _ ([.slice _ _ _]) at hb4
  have z6 := Bel.size x5
  replace hX := Bel.ex hX x5
  replace hs := hs.ext x5
  replace hb2 := hb2.ext x5
  refine Rg_nil (W_seq (W_seq (W_region ?_)))
  refine Rg_run rfl (o_loadS Tryz.isAgg36 Tryz.sizeOf36 rfl hb2.at rfl) ?_
  refine Rg_run rfl (o_moveh (v := .int _ _) rfl) ?_
  refine Rg_enter rfl (o_call2 Tryz.call46 rfl rfl) (Ok.mono (bhas_ok _ ⟨_, _, _⟩ _ hs _ (by unfold I64; omega)) ?_)
  rintro _ w7 ⟨rfl, x8⟩
  have z9 := Bel.size x8
  replace hX := Bel.ex hX x8
  replace hs := hs.ext x8
  replace hb2 := hb2.ext x8
  replace hb4 := hb4.ext x8
  refine Rg_run rfl (o_not rfl) ?_
  refine Rg_nil ?_
  refine W_cond_false (congrArg Value.bool (by rw [hasW_nat, hb]; rfl)) ?_
  refine W_skip (W_seq (W_region ?_))
  obtain ⟨n0, hn0⟩ : ∃ n, n = w7.heap.size := ⟨_, rfl⟩
  refine Rg_bs (vs := []) (([] : List W64)) rfl encU_ok el_word rfl rfl trivial rfl rfl rfl rfl ?_
  intro a11 w10 x11 hown11
  have z12 := Bel.size x11
  replace hX := Bel.ex hX x11
  replace hs := hs.ext x11
  replace hb2 := hb2.ext x11
  replace hb4 := hb4.ext x11
  replace hown11 := hown11.mono (D' := fun g => n0 ≤ g) (fun g h1 h2 => by omega)
  refine Rg_run rfl (o_fa Tryz.underlying36 rfl Tryz.sizeOf34 rfl) ?_
  refine Rg_run rfl (o_load1 Tryz.isAgg34 rfl (hb2.at.get 0 rfl)) ?_
  refine Rg_app rfl encU_ok el_word rfl rfl hown11 hs rfl (by simp; omega) (fun g h => by omega) ?_
  intro v14 w13 x14 hown11
  have z15 := Bel.size x14
  replace hX := Bel.out hX x14 (fun g h1 h2 => by first | exact h2 | omega)
  replace hb4 := hb4.keep x14 (fun h => by omega)
  refine Rg_run rfl (o_assignh (v := v14) rfl) ?_
  refine Rg_nil (W_seq ?_)
  rw [List.nil_append, hw1] at hown11
  obtain ⟨a11, c11, hv11, -⟩ := hown11.sl encU_ok
  subst hv11
  apply W_draw (β := False) [peq _, peq _, peq _, peq _, peq _, peq _, peq _, peq _, peq _, peq _] 10 mixed (by kernel_rfl) rfl ⟨peq_stable _, peq_stable _, peq_stable _, peq_stable _, peq_stable _, peq_stable _, peq_stable _, peq_stable _, peq_stable _, peq_stable _, trivial⟩ ?ob4 ?fin4
  case ob4 =>
    refine OblL_cons (fun w16 x17 => ?_) ?_
    · skip
      have z18 := Bel.size x17
      refine bindP_nil ?_
      exact OpS_v rfl (o_moveh (v := .slice a11 1 c11) rfl)
    refine OblL_cons (fun w19 x20 => ?_) ?_
    · skip
      have z21 := Bel.size x20
      refine bindP_nil ?_
      exact OpS_v rfl (o_moveh (v := .int _ _) rfl)
    refine OblL_cons (fun w22 x23 => ?_) ?_
    · skip
      have z24 := Bel.size x23
      refine bindP_eq (bindP_nil ?_)
      exact OpS_v rfl (o_quoZ (b := 64) rfl rfl (by omega) (by omega) (by unfold I64; omega))
    refine OblL_cons (fun w25 x26 => ?_) ?_
    · skip
      have z27 := Bel.size x26
      have hown11 := hown11.ext x26
      refine bindP_eq (bindP_eq (bindP_nil ?_))
      exact OpS_v rfl (o_iaO (i := 0) Tryz.underlying34 Tryz.sizeOf50 hown11 rfl rfl (by simp))
    refine OblL_cons (fun w28 x29 => ?_) ?_
    · skip
      have z30 := Bel.size x29
      have hown11 := hown11.ext x29
      refine bindP_eq (bindP_nil ?_)
      exact OpS_v rfl (o_ldR Tryz.isAgg50 (hown11.slA encU_ok) rfl rfl (i := 0) rfl rfl)
    refine OblL_cons (fun w31 x32 => ?_) ?_
    · skip
      have z33 := Bel.size x32
      refine bindP_nil ?_
      exact OpS_v rfl (o_moveh (v := .int _ _) rfl)
    refine OblL_cons (fun w34 x35 => ?_) ?_
    · skip
      have z36 := Bel.size x35
      refine bindP_eq (bindP_nil ?_)
      exact OpS_v rfl (o_remT (b := 64) rfl rfl (by omega) (by decide) (by unfold I64; omega))
    refine OblL_cons (fun w37 x38 => ?_) ?_
    · skip
      have z39 := Bel.size x38
      refine bindP_eq (bindP_nil ?_)
      exact OpS_v rfl (o_shlU (a := BitVec.ofNat 64 1) rfl rfl (Nat.mod_lt _ (by decide)))
    refine OblL_cons (fun w40 x41 => ?_) ?_
    · skip
      have z42 := Bel.size x41
      refine bindP_eq (bindP_eq (bindP_nil ?_))
      exact OpS_v rfl (o_bandn rfl rfl)
    refine OblL_cons (fun w43 x44 => ?_) ?_
    · skip
      have z45 := Bel.size x44
      have hown11 := hown11.ext x44
      refine bindP_eq (bindP_eq (bindP_eq (bindP_eq (bindP_eq (bindP_eq (bindP_eq (bindP_eq (bindP_eq ?_))))))))
      refine bindP_eq (bindP_eq (bindP_nil ?_))
      exact OpS_v rfl (o_iaO (i := 0) Tryz.underlying34 Tryz.sizeOf50 hown11 rfl rfl (by simp))
    exact OblL_nil
  case fin4 =>
    intro w46 x47
    have z48 := Bel.size x47
    replace hX := Bel.ex hX x47
    replace hb4 := hb4.ext x47
    replace hown11 := hown11.ext x47
    refine bindP_eq (bindP_eq (bindP_eq (bindP_eq (bindP_eq (bindP_eq (bindP_eq (bindP_eq (bindP_eq ?_))))))))
    refine bindP_eq (bindP_nil ?_)
    refine Rg_elst (u := s.x &&& ~~~(1#64 <<< ((i : Int).toNat % 64))) rfl encU_ok Tryz.sizeOf50 rfl rfl rfl hown11 (by simp) ?_
    intro w49 x50 hown11
    have z51 := Bel.size x50
    replace hX := Bel.out hX x50 (fun g h1 h2 => by first | exact h2 | omega)
    replace hb4 := hb4.keep x50 (fun h => by omega)
    rw [show (i : Int).toNat % 64 = i by omega] at hown11
    refine Rg_nil (W_seq (W_region ?_))
    refine Rg_run rfl (o_moveh (v := .slice a11 1 c11) rfl) ?_
    refine Rg_enter rfl (o_call1 Tryz.call82 rfl) (Ok.mono (btrim_ok _ _ _ [s.x &&& ~~~(oneW i)] _ (hown11.slA encU_ok) (by simp)) ?_)
    rintro _ w52 ⟨rfl, x53⟩
    have z54 := Bel.size x53
    replace hX := Bel.ex hX x53
    replace hb4 := hb4.ext x53
    replace hown11 := hown11.ext x53
    refine Rg_storeW (v := .agg _) rfl Tryz.sizeOf36 rfl rfl hb4 rfl rfl rfl ?_
    intro w55 c56 hb4
    change Box _ _ _ (encSV _) at hb4
    have z57 := Bel.size c56
    replace hX := Bel.out hX c56 (fun g h1 h2 => by first | exact h2 | omega)
    replace hown11 := hown11.keepD c56 (fun g h1 h2 h3 => by omega)
    refine Rg_nil (W_ret ?_)
    refine ⟨_, res_1 (v := .agg _) rfl (rv_cellS Tryz.isAgg36 Tryz.sizeOf36 rfl hb4.at rfl), ?_⟩
    exact ⟨_, _, rfl, (trim_sl (hown11.slA encU_ok) (by simp)).mono (fun g h1 h2 => ⟨by omega, by omega⟩), hX⟩

theorem sclone_ok (w : World) (vl : Value) (l : List SE) (hl : Rd encSe 3 (Lt w.heap.size) w vl l) (nl : l.length ≤ 100000) : Ok Tryz.prog 41 #[vl] w fun v w' => Own encSe 3 38 (Fsh w w') w' v (l) ∧ Ext False w w' := by
  obtain ⟨al, cl, rfl, hl⟩ := hl; have ml := hl.len
  refine Ok_of_W 8 Tryz.func41 rfl rfl rfl ?_
  have hX : Ext False w w := Bel.refl _ _
  refine W_seq (W_region ?_)
  refine Rg_run rfl o_assignc ?_
  refine Rg_nil (W_seq (W_seq (W_region ?_)))
  refine Rg_run rfl (o_moveh (v := .slice _ _ _) rfl) ?_
  refine Rg_run rfl (o_lnil Tryz.underlying32 rfl) ?_
  refine Rg_nil ?_
  refine W_cond rfl (fun hc1 => ?_) (fun hc1 => ?_)
  · skip
    have hnl := sl_none hl hc1; subst hnl
    refine W_seq (W_region ?_)
    refine Rg_run rfl o_assignc ?_
    refine Rg_nil (W_ret ?_)
    refine ⟨_, res_tmp rfl rfl, ?_⟩
    exact ⟨Own.nil _ _, hX⟩
  refine W_skip (W_seq (W_region ?_))
  refine Rg_bs (vs := []) (([] : List SE)) rfl encSe_ok el_ses rfl rfl trivial rfl rfl rfl rfl ?_
  intro a5 w1 x2 hown5
  have z3 := Bel.size x2
  replace hX := Bel.ex hX x2
  replace hl := hl.ext x2
  replace hown5 := hown5.mono (D' := fun g => w.heap.size ≤ g) (fun g h1 h2 => by omega)
  refine Rg_run rfl (o_moveh (v := .slice _ _ _) rfl) ?_
  refine Rg_app rfl encSe_ok el_ses rfl rfl hown5 hl rfl (by simp; omega) (fun g h => by omega) ?_
  intro v7 w4 x5 hown5
  have z6 := Bel.size x5
  replace hX := Bel.out hX x5 (fun g h1 h2 => by first | exact h2 | omega)
  refine Rg_run rfl (o_assignh (v := v7) rfl) ?_
  refine Rg_nil (W_ret ?_)
  refine ⟨_, res_tmp rfl rfl, ?_⟩
  rw [List.nil_append] at hown5; exact ⟨hown5.mono (fun g h1 h2 => by omega), hX⟩

theorem srole_ok (w : World) (r : Int) : Ok Tryz.prog 45 #[.int .i64 r] w fun v w' => v = .bool (decide (1 ≤ r) && decide (r ≤ 63)) ∧ Ext False w w' := by
  refine Ok_of_W 9 Tryz.func45 rfl rfl rfl ?_
  have hX : Ext False w w := Bel.refl _ _
  refine W_seq (W_region ?_)
  refine Rg_run rfl o_assignc ?_
  refine Rg_nil (W_seq (W_region ?_))
  refine Rg_run rfl (o_moveh (v := .int _ _) rfl) ?_
  refine Rg_run rfl (o_geq rfl rfl) ?_
  refine Rg_run rfl (o_moveh (v := .bool _) rfl) ?_
  refine Rg_may 2 5 rfl rfl rfl (fun hg => (o_moveh (v := .int _ _) rfl)) ?_
  refine Rg_may 2 5 rfl rfl rfl (fun hg => (o_leq (gsel (u := undef) hg) rfl)) ?_
  refine Rg_run rfl (o_and (u := undef) rfl rfl) ?_
  refine Rg_run rfl (o_assignh (v := .bool _) rfl) ?_
  refine Rg_nil (W_ret ?_)
  refine ⟨_, res_tmp rfl rfl, ?_⟩
  refine ⟨congrArg Value.bool ?_, hX⟩
  all_goals (rfl)

theorem sfind1_ok (s : SE) (n : Int) (w : World) (hr : I64 (s.n - n)) : Ok Tryz.prog 94 #[.agg (encSe s).toArray, .int .i64 n] w fun v w' => v = .int .i64 (s.n - n) ∧ Ext False w w' := by
  refine Ok_of_W 9 Tryz.func94 rfl rfl rfl ?_
  have hX : Ext False w w := Bel.refl _ _
  refine W_seq (W_region ?_)
  refine Rg_newB rfl (o_box (v := .agg _) rfl) ?_
  intro b2 w1 x2 hge2 hb2
  change Box _ _ _ (encSe _) at hb2
  replace hX := Bel.ex hX x2
  refine Rg_run rfl o_assignc ?_
  refine Rg_nil (W_seq (W_region ?_))
  refine Rg_run rfl (o_fa Tryz.underlying38 rfl Tryz.sizeOf3 rfl) ?_
  refine Rg_run rfl (o_load1 Tryz.isAgg3 rfl (hb2.at.get 0 rfl)) ?_
  refine Rg_run rfl (o_moveh (v := .int _ _) rfl) ?_
  refine Rg_run rfl (o_sub rfl rfl hr) ?_
  refine Rg_run rfl (o_assignh (v := .int _ _) rfl) ?_
  refine Rg_nil (W_ret ?_)
  refine ⟨_, res_tmp rfl rfl, ?_⟩
  refine ⟨congrArg (Value.int .i64) ?_, hX⟩
  all_goals (rfl)

theorem sbs_ok (a : Option Addr) (c : Nat) (G : Nat → Prop) (l : List SE) (n : Int) (w : World) (hs : Sl encSe 3 G w a c l) (hm : OkM (l.map SE.rs)) (hn : -1000 ≤ n ∧ n ≤ 1000) : Ok Tryz.prog 93 #[.slice a l.length c, .int .i64 n, .func (.func 94) #[] #[]] w fun v w' => ∃ i : Nat, v = .tuple #[.int .i64 (i : Int), .bool (decide (0 ≤ fnd (l.map SE.rs) n))] ∧ i ≤ l.length ∧ (0 ≤ fnd (l.map SE.rs) n → fnd (l.map SE.rs) n = i) ∧ Ext False w w' := by
  have hlen : l.length ≤ 64 := by have := hm.len; simpa using this
  refine Ok_of_W 49 Tryz.func93 rfl rfl rfl ?_
  have hX : Ext False w w := Bel.refl _ _
  refine W_seq (W_region ?_)
  refine Rg_run rfl o_assignc ?_
  refine Rg_run rfl o_assignc ?_
  refine Rg_nil (W_seq (W_region ?_))
  refine Rg_run rfl (o_moveh (v := .slice _ _ _) rfl) ?_
  refine Rg_run rfl (o_llen Tryz.underlying32 rfl) ?_
  refine Rg_run rfl (o_assignh (v := .int _ _) rfl) ?_
  refine Rg_nil (W_seq (W_region ?_))
  refine Rg_run rfl (o_moveh (v := .int _ _) rfl) ?_
  refine Rg_run rfl o_assignc ?_
  refine Rg_run rfl (o_assignh (v := .int _ _) rfl) ?_
  refine Rg_nil (W_seq (W_block ?_))
  refine W_for (α := Nat × Nat) [(9, 11), (15, 34)] (fun q => [(9, .int .i64 (q.1 : Int)), (10, .int .i64 (q.2 : Int))]) (fun q w' => (BsI (l.map SE.rs) n q.1 q.2) ∧ Ext False w w') (fun q => q.2 - q.1) (0, l.length) ⟨rfl, rfl, trivial⟩ ⟨BsI.start _ _ (by simp), Bel.refl _ _⟩ ?_
  rintro ⟨i, j⟩ fb3 w2 ⟨hb, hXL1⟩
  dsimp only at *
  replace hX := Bel.ex hX hXL1
  replace hs := hs.ext hXL1
  have hb1 := hb.le
  have hb2 := hb.len
  simp only [List.length_map] at hb2
  refine W_seq (W_seq (W_region ?_))
  refine Rg_run rfl (o_moveh (v := .int _ _) rfl) ?_
  refine Rg_run rfl (o_moveh (v := .int _ _) rfl) ?_
  refine Rg_run rfl (o_lss rfl rfl) ?_
  refine Rg_nil ?_
  refine W_cond rfl (fun hc1 => ?_) (fun hc1 => ?_)
  · skip
    replace hc1 := of_decide_eq_true hc1
    have hij : i < j := by omega
    refine W_skip (W_block (W_seq (W_region ?_)))
    refine Rg_run rfl (o_moveh (v := .int _ _) rfl) ?_
    refine Rg_run rfl (o_moveh (v := .int _ _) rfl) ?_
    refine Rg_run rfl (o_addN (p := i) (b := j) rfl rfl (by omega)) ?_
    refine Rg_run rfl (o_convV (n := i + j) Tryz.underlying3 Tryz.underlying185 rfl (by omega)) ?_
    refine Rg_run rfl (o_shrU (a := BitVec.ofNat 64 (i + j)) (n := 1) rfl rfl (by decide)) ?_
    refine Rg_run rfl (o_convU (n := ((i + j) / 2)) Tryz.underlying185 Tryz.underlying3 rfl (half_nat (by omega)) (by omega)) ?_
    refine Rg_run rfl (o_assignh (v := .int _ _) rfl) ?_
    refine Rg_nil (W_seq (W_region ?_))
    refine Rg_run rfl (o_moveh (v := .func _ _ _) rfl) ?_
    refine Rg_run rfl (o_moveh (v := .slice _ _ _) rfl) ?_
    refine Rg_run rfl (o_moveh (v := .int _ _) rfl) ?_
    refine Rg_run rfl (o_iaR Tryz.underlying32 Tryz.sizeOf38 hs rfl rfl (by first | omega | (unfold I64; omega) | (simp; done) | (simp; omega) | (simp at *; omega))) ?_
    refine Rg_run rfl (o_ldRS Tryz.isAgg38 Tryz.sizeOf38 hs rfl (getE sez (by omega))) ?_
    refine Rg_run rfl (o_moveh (v := .int _ _) rfl) ?_
    refine Rg_enter rfl (o_clo2 Tryz.call94 rfl rfl rfl) (Ok.mono (sfind1_ok (l.getD ((i + j) / 2) sez) n _ (by have h := hm.rng _ (gm (z := rz) (show ((i + j) / 2) < (l.map SE.rs).length by simp; omega)); rw [rs_get] at h; have h2 : (l.getD ((i + j) / 2) sez).rs.n = (l.getD ((i + j) / 2) sez).n := rfl; rw [h2] at h; unfold I64; omega)) ?_)
    rintro _ w4 ⟨rfl, x5⟩
    replace hX := Bel.ex hX x5
    replace hXL1 := Bel.ex hXL1 x5
    refine Rg_run rfl (o_lss rfl rfl) ?_
    refine Rg_nil ?_
    refine W_cond rfl (fun hc2 => ?_) (fun hc2 => ?_)
    · skip
      replace hc2 := of_decide_eq_true hc2
      refine W_region ?_
      refine Rg_run rfl (o_moveh (v := .int _ _) rfl) ?_
      refine Rg_run rfl (o_add rfl rfl (by first | omega | (unfold I64; omega) | (simp; done) | (simp; omega) | (simp at *; omega))) ?_
      refine Rg_run rfl (o_assignh (v := .int _ _) rfl) ?_
      refine Rg_nil ?_
      refine ⟨(((i + j) / 2) + 1, j), ⟨?_, ?_, trivial⟩, ?_, ⟨?_, hXL1⟩, ?_⟩
      · first | rfl | (go_num) | (exact congrArg _ (by omega))
      · first | rfl | (go_num) | (exact congrArg _ (by omega))
      · repeat (first | exact off_refl _ _ | exact off_mix | refine off_put rfl ?_ | refine off_putN ?_ | refine off_setL rfl ?_ | refine off_mix' rfl ?_)
      · exact hb.lo hm (by omega) (by omega) (by rw [rs_get]; show (l.getD ((i + j) / 2) sez).n < n; omega)
      · show j - (((i + j) / 2) + 1) < j - i; omega
    replace hc2 := of_decide_eq_false hc2
    refine W_region ?_
    refine Rg_run rfl (o_moveh (v := .int _ _) rfl) ?_
    refine Rg_run rfl (o_assignh (v := .int _ _) rfl) ?_
    refine Rg_nil ?_
    refine ⟨(i, ((i + j) / 2)), ⟨?_, ?_, trivial⟩, ?_, ⟨?_, hXL1⟩, ?_⟩
    · first | rfl | (go_num) | (exact congrArg _ (by omega))
    · first | rfl | (go_num) | (exact congrArg _ (by omega))
    · repeat (first | exact off_refl _ _ | exact off_mix | refine off_put rfl ?_ | refine off_putN ?_ | refine off_setL rfl ?_ | refine off_mix' rfl ?_)
    · exact hb.hi hm (by omega) (by omega) (by rw [rs_get]; show n ≤ (l.getD ((i + j) / 2) sez).n; omega)
    · show ((i + j) / 2) - i < j - i; omega
  replace hc1 := of_decide_eq_false hc1
  obtain rfl : i = j := by omega
  refine W_exit (exAt_hit (W_seq (W_region ?_)))
  refine Rg_run rfl (o_moveh (v := .int _ _) rfl) ?_
  refine Rg_run rfl (o_moveh (v := .int _ _) rfl) ?_
  refine Rg_run rfl (o_moveh (v := .int _ _) rfl) ?_
  refine Rg_run rfl (o_lss rfl rfl) ?_
  refine Rg_run rfl (o_moveh (v := .bool _) rfl) ?_
  refine Rg_may 4 39 rfl rfl rfl (fun hg => (o_moveh (v := .func _ _ _) rfl)) ?_
  refine Rg_may 4 39 rfl rfl rfl (fun hg => (o_moveh (v := .slice _ _ _) rfl)) ?_
  refine Rg_may 4 39 rfl rfl rfl (fun hg => (o_moveh (v := .int _ _) rfl)) ?_
  refine Rg_may 4 39 rfl rfl rfl (fun hg => (o_iaR Tryz.underlying32 Tryz.sizeOf38 hs (gsel (u := undef) hg) (gsel (u := undef) hg) (by first | omega | (unfold I64; omega) | (simp; done) | (simp; omega) | (simp at *; omega)))) ?_
  refine Rg_may 4 39 rfl rfl rfl (fun hg => (o_ldRS Tryz.isAgg38 Tryz.sizeOf38 hs (gsel (u := undef) hg) (getE sez (by simpa using hg)))) ?_
  refine Rg_may 4 39 rfl rfl rfl (fun hg => (o_moveh (v := .int _ _) rfl)) ?_
  refine Rg_mayCall 4 39 rfl rfl rfl (fun hg => ⟨(o_clo2 Tryz.call94 (gsel (u := undef) hg) (gsel (u := undef) hg) (gsel (u := undef) hg)), sfind1_ok (l.getD i sez) n _ (by have hil : i < l.length := (by simpa using hg); exact (by have h := hm.rng _ (gm (z := rz) (show i < (l.map SE.rs).length by simp; omega)); rw [rs_get] at h; have h2 : (l.getD i sez).rs.n = (l.getD i sez).n := rfl; rw [h2] at h; unfold I64; omega))⟩) ?_
  intro w6 x7
  replace hX := Bel.ex hX x7
  refine Rg_may 4 39 rfl rfl rfl (fun hg => (o_eql (gsel (u := undef) hg) rfl)) ?_
  refine Rg_run rfl (o_and (u := undef) rfl rfl) ?_
  refine Rg_run rfl (o_assignh (v := .int _ _) rfl) ?_
  refine Rg_run rfl (o_assignh (v := .bool _) rfl) ?_
  refine Rg_nil (W_ret ?_)
  refine ⟨_, res_tmp2 rfl rfl rfl, ?_⟩
  have he := hb.fin hm
  have e : (decide ((i : Int) < (l.length : Int)) && ((l.getD i sez).n - n == 0)) = decide (0 ≤ fnd (l.map SE.rs) n) := by
    rw [he.1, rs_get]
    show _ = (decide (i < (l.map SE.rs).length) && decide ((l.getD i sez).n = n))
    rw [List.length_map]
    congr 1
    · simp
    · rw [Bool.eq_iff_iff]; simp; omega
  rw [e]
  exact ⟨i, rfl, hb2, he.2, hX⟩

theorem sfind_ok (v0 : Value) (m : List RS) (w : World) (hb0 : BkIs w v0 m) (hm : OkM m) (n : Int) (hn : -1000 ≤ n ∧ n ≤ 1000) : Ok Tryz.prog 43 #[v0, .int .i64 n] w fun v w' => ∃ i : Nat, v = .tuple #[.int .i64 (i : Int), .bool (decide (0 ≤ fnd m n))] ∧ (0 ≤ fnd m n → fnd m n = i) ∧ Ext False w w' := by
  obtain ⟨pb, b, rfl, hb, rfl⟩ := hb0
  have hba := hb.at'
  have hbl := hb.lt
  have hml := b.mlen
  have hlen : b.l.length ≤ 64 := by have := hm.len; omega
  refine Ok_of_W 14 Tryz.func43 rfl rfl rfl ?_
  have hX : Ext False w w := Bel.refl _ _
  refine W_seq (W_region ?_)
  refine Rg_run rfl o_assignc ?_
  refine Rg_run rfl o_assignc ?_
  refine Rg_nil (W_seq (W_region ?_))
  refine Rg_run rfl (o_moveh (v := .pointer _) rfl) ?_
  refine Rg_run rfl (o_nilc rfl) ?_
  refine Rg_run rfl (o_fa Tryz.underlying91 rfl Tryz.sizeOf32 rfl) ?_
  refine Rg_run rfl (o_load1 Tryz.isAgg32 rfl (hba.get 0 rfl)) ?_
  refine Rg_run rfl (o_moveh (v := .int _ _) rfl) ?_
  refine Rg_enter rfl (o_call3 Tryz.call93 rfl rfl rfl) (Ok.mono (sbs_ok _ _ _ b.l n _ hb.sl hm hn) ?_)
  rintro _ w1 ⟨i11, rfl, hi11, hf11, x2⟩
  replace hX := Bel.ex hX x2
  refine Rg_run rfl (o_extract rfl rfl) ?_
  refine Rg_run rfl (o_extract rfl rfl) ?_
  refine Rg_run rfl (o_assignh (v := .int _ _) rfl) ?_
  refine Rg_run rfl (o_assignh (v := .bool _) rfl) ?_
  refine Rg_nil (W_ret ?_)
  refine ⟨_, res_tmp2 rfl rfl rfl, ?_⟩
  exact ⟨i11, rfl, hf11, hX⟩

theorem swith_ok (v0 : Value) (m : List RS) (w : World) (hb0 : BkIs w v0 m) (hm : OkM m) (i : Nat) (s : SE) (G : Nat → Prop) (hs : Sl encU 1 G w s.a s.c (wl s.x)) (hi : i < m.length) : Ok Tryz.prog 48 #[v0, .int .i64 (i : Int), .agg (encSe s).toArray] w fun v w' => BkIs w' v (m.set i s.rs) ∧ Ext False w w' := by
  obtain ⟨pb, b, rfl, hb, rfl⟩ := hb0
  have hba := hb.at'
  have hbl := hb.lt
  have hml := b.mlen
  have hlen : b.l.length ≤ 64 := by have := hm.len; omega
  replace hs := hs.top
  have hib : i < b.l.length := by omega
  refine Ok_of_W 20 Tryz.func48 rfl rfl rfl ?_
  have hX : Ext False w w := Bel.refl _ _
  refine W_seq (W_region ?_)
  refine Rg_newB rfl (o_box (v := .agg _) rfl) ?_
  intro b5 w1 x2 hge5 hb5
  have hlt5 := hb5.lt
  change Box _ _ _ (encSe _) at hb5
  have z3 := Bel.size x2
  replace hX := Bel.ex hX x2
  replace hb := hb.ext x2
  replace hba := hba.ext x2
  replace hs := hs.ext x2
  refine Rg_run rfl o_assignc ?_
  refine Rg_nil (W_seq (W_region ?_))
  refine Rg_run rfl (o_moveh (v := .pointer _) rfl) ?_
  refine Rg_run rfl (o_nilc rfl) ?_
  refine Rg_run rfl (o_fa Tryz.underlying91 rfl Tryz.sizeOf32 rfl) ?_
  refine Rg_run rfl (o_load1 Tryz.isAgg32 rfl (hba.get 0 rfl)) ?_
  refine Rg_enter rfl (o_call1 Tryz.call41 rfl) (Ok.mono (sclone_ok _ _ _ hb.sl.trd (by omega)) ?_)
  rintro v12 w4 ⟨hown12, x5⟩
  have z6 := Bel.size x5
  replace hX := Bel.ex hX x5
  replace hb := hb.ext x5
  replace hs := hs.ext x5
  replace hb5 := hb5.ext x5
  replace hown12 := hown12.mono (D' := fun g => w.heap.size ≤ g) (fun g h1 h2 => by omega)
  refine Rg_run rfl (o_assignh (v := v12) rfl) ?_
  refine Rg_nil (W_seq (W_region ?_))
  obtain ⟨a12, c12, hv12, -⟩ := hown12.sl encSe_ok
  subst hv12
  refine Rg_run rfl (o_moveh (v := .slice a12 b.l.length c12) rfl) ?_
  refine Rg_run rfl (o_moveh (v := .int _ _) rfl) ?_
  refine Rg_run rfl (o_loadS Tryz.isAgg38 Tryz.sizeOf38 rfl hb5.at rfl) ?_
  refine Rg_run rfl (o_iaO (i := i) Tryz.underlying32 Tryz.sizeOf38 hown12 rfl rfl (by omega)) ?_
  refine Rg_elst (u := s) rfl encSe_ok Tryz.sizeOf38 rfl rfl rfl hown12 hib ?_
  intro w7 x8 hown12
  have z9 := Bel.size x8
  replace hX := Bel.out hX x8 (fun g h1 h2 => by first | exact h2 | omega)
  replace hb := hb.keep x8 (fun g h1 h2 h3 => by omega)
  replace hs := hs.keep x8 (fun g h1 h2 h3 => by omega)
  refine Rg_nil (W_seq (W_region ?_))
  refine Rg_run rfl (o_moveh (v := .slice a12 b.l.length c12) rfl) ?_
  refine Rg_run rfl (o_build (cells := [.slice a12 b.l.length c12]) (vs := [(0, .slice _ _ _)]) rfl (by kernel_rfl)) ?_
  refine Rg_newB rfl (o_box (v := .agg _) rfl) ?_
  intro b19 w10 x11 hge19 hb19
  have hlt19 := hb19.lt
  have z12 := Bel.size x11
  replace hX := Bel.ex hX x11
  replace hb := hb.ext x11
  replace hs := hs.ext x11
  replace hown12 := hown12.ext x11
  refine Rg_run rfl (o_assignh (v := .pointer _) rfl) ?_
  refine Rg_nil (W_ret ?_)
  refine ⟨_, res_tmp rfl rfl, ?_⟩
  change Box _ _ _ [.slice a12 b.l.length c12] at hb19
  exact ⟨bk_new (l := b.l.set i s) hb19 (by simp) hown12 (hb.ws.top.set hs.top) mset, hX⟩

theorem sopen_ok (v0 : Value) (m : List RS) (w : World) (hb0 : BkIs w v0 m) (hm : OkM m) (u : Int) : Ok Tryz.prog 11 #[v0, .int .i64 u] w fun v w' => (∃ p, v = .tuple #[p, .int .i64 (openR m u).2.1, .int .i64 (openR m u).2.2] ∧ BkP w' p (openR m u).2.2 (openR m u).1) ∧ Ext False w w' := by
  obtain ⟨pb, b, rfl, hb, rfl⟩ := hb0
  have hba := hb.at'
  have hbl := hb.lt
  have hml := b.mlen
  have hlen : b.l.length ≤ 64 := by have := hm.len; omega
  refine Ok_of_W 62 Tryz.func11 rfl rfl rfl ?_
  have hX : Ext False w w := Bel.refl _ _
  refine W_seq (W_region ?_)
  refine Rg_run rfl o_assignc ?_
  refine Rg_run rfl o_assignc ?_
  refine Rg_run rfl o_assignc ?_
  refine Rg_nil (W_seq (W_seq (W_region ?_)))
  refine Rg_run rfl (o_moveh (v := .pointer _) rfl) ?_
  refine Rg_run rfl (o_peq Tryz.underlying26 rfl rfl) ?_
  refine Rg_run rfl (o_moveh (v := .bool _) rfl) ?_
  refine Rg_on 2 10 rfl rfl ?_
  refine Rg_run rfl (o_moveh (v := .int _ _) rfl) ?_
  refine Rg_on 2 10 rfl rfl ?_
  refine Rg_run rfl (o_lss rfl rfl) ?_
  refine Rg_run rfl (o_pickF (v := .bool _) rfl rfl) ?_
  refine Rg_run rfl (o_moveh (v := .bool _) rfl) ?_
  refine Rg_may 6 14 rfl rfl rfl (fun hg => (o_moveh (v := .int _ _) rfl)) ?_
  refine Rg_may 6 14 rfl rfl rfl (fun hg => (o_gtr (gsel (u := undef) hg) rfl)) ?_
  refine Rg_run rfl (o_or (u := undef) rfl rfl) ?_
  refine Rg_nil ?_
  refine W_cond rfl (fun hc1 => ?_) (fun hc1 => ?_)
  · skip
    have hu : u < 1 ∨ 256 < u := by simpa using hc1
    refine W_seq (W_region ?_)
    refine Rg_run rfl o_assignc ?_
    refine Rg_run rfl o_assignc ?_
    refine Rg_run rfl o_assignc ?_
    refine Rg_nil (W_ret ?_)
    refine ⟨_, res_T (vs := [.pointer _, .int _ _, .int _ _]) rfl ⟨rfl, rfl, rfl, trivial⟩ (by simp), ?_⟩
    have e : openR b.m u = (b.m, 0, 1) := by rw [openR, if_pos hu]
    rw [e]
    exact ⟨⟨_, rfl, ⟨fun h => by simp at h, fun _ => rfl⟩⟩, hX⟩
  have hu : ¬ (u < 1 ∨ 256 < u) := by simpa using hc1
  refine W_skip (W_seq (W_seq (W_region ?_)))
  refine Rg_run rfl (o_moveh (v := .pointer _) rfl) ?_
  refine Rg_run rfl (o_nilc rfl) ?_
  refine Rg_run rfl (o_fa Tryz.underlying91 rfl Tryz.sizeOf32 rfl) ?_
  refine Rg_run rfl (o_load1 Tryz.isAgg32 rfl (hba.get 0 rfl)) ?_
  refine Rg_run rfl (o_llen Tryz.underlying32 rfl) ?_
  refine Rg_run rfl (o_geq rfl rfl) ?_
  refine Rg_nil ?_
  refine W_cond rfl (fun hc2 => ?_) (fun hc2 => ?_)
  · skip
    replace hc2 := of_decide_eq_true hc2
    refine W_seq (W_region ?_)
    refine Rg_run rfl o_assignc ?_
    refine Rg_run rfl o_assignc ?_
    refine Rg_run rfl o_assignc ?_
    refine Rg_nil (W_ret ?_)
    refine ⟨_, res_T (vs := [.pointer _, .int _ _, .int _ _]) rfl ⟨rfl, rfl, rfl, trivial⟩ (by simp), ?_⟩
    have e : openR b.m u = (b.m, 0, 14) := by rw [openR, if_neg hu, if_pos (by omega)]
    rw [e]
    exact ⟨⟨_, rfl, ⟨fun h => by simp at h, fun _ => rfl⟩⟩, hX⟩
  replace hc2 := of_decide_eq_false hc2
  refine W_skip (W_seq (W_region ?_))
  refine Rg_run rfl o_assignc ?_
  refine Rg_nil (W_seq (W_block ?_))
  refine W_for (α := Nat) [(7, 7), (24, 45)] (fun k => [(7, .int .i64 (k : Int))]) (fun k w' => (k ≤ b.l.length ∧ ∀ j, j < k → (b.m.getD j rz).n = (j : Int) + 1) ∧ Ext False w w') (fun k => b.l.length - k) 0 ⟨rfl, trivial⟩ ⟨⟨Nat.zero_le _, fun j h => absurd h (Nat.not_lt_zero _)⟩, Bel.refl _ _⟩ ?_
  rintro k fb3 w2 ⟨⟨hk, hall⟩, hXL1⟩
  have z4 := Bel.size hXL1
  replace hX := Bel.ex hX hXL1
  replace hb := hb.ext hXL1
  replace hba := hba.ext hXL1
  refine W_seq (W_seq (W_region ?_))
  refine Rg_run rfl (o_moveh (v := .int _ _) rfl) ?_
  refine Rg_run rfl (o_moveh (v := .pointer _) rfl) ?_
  refine Rg_run rfl (o_nilc rfl) ?_
  refine Rg_run rfl (o_fa Tryz.underlying91 rfl Tryz.sizeOf32 rfl) ?_
  refine Rg_run rfl (o_load1 Tryz.isAgg32 rfl (hba.get 0 rfl)) ?_
  refine Rg_run rfl (o_llen Tryz.underlying32 rfl) ?_
  refine Rg_run rfl (o_lss rfl rfl) ?_
  refine Rg_run rfl (o_moveh (v := .bool _) rfl) ?_
  refine Rg_may 7 31 rfl rfl rfl (fun hg => (o_moveh (v := .pointer _) rfl)) ?_
  refine Rg_may 7 31 rfl rfl rfl (fun hg => (o_nilc (gsel (u := undef) hg))) ?_
  refine Rg_may 7 31 rfl rfl rfl (fun hg => (o_fa Tryz.underlying91 rfl Tryz.sizeOf32 (gsel (u := undef) hg))) ?_
  refine Rg_may 7 31 rfl rfl rfl (fun hg => (o_load1 Tryz.isAgg32 (gsel (u := undef) hg) (hba.get 0 rfl))) ?_
  refine Rg_may 7 31 rfl rfl rfl (fun hg => (o_moveh (v := .int _ _) rfl)) ?_
  refine Rg_may 7 31 rfl rfl rfl (fun hg => (o_iaR Tryz.underlying32 Tryz.sizeOf38 hb.sl (gsel (u := undef) hg) (gsel (u := undef) hg) (by first | omega | (unfold I64; omega) | (simp; done) | (simp; omega) | (simp at *; omega)))) ?_
  refine Rg_may 7 31 rfl rfl rfl (fun hg => (o_faE Tryz.underlying38 rfl Tryz.sizeOf3 hb.sl (gsel (u := undef) hg) (getE sez (by simpa using hg)))) ?_
  refine Rg_may 7 31 rfl rfl rfl (fun hg => (o_ldE (j := 0) Tryz.isAgg3 hb.sl (gsel (u := undef) hg) (getE sez (by simpa using hg)) rfl)) ?_
  refine Rg_may 7 31 rfl rfl rfl (fun hg => (o_moveh (v := .int _ _) rfl)) ?_
  refine Rg_may 7 31 rfl rfl rfl (fun hg => (o_add (gsel (u := undef) hg) rfl (by first | omega | (unfold I64; omega) | (simp; done) | (simp; omega) | (simp at *; omega)))) ?_
  refine Rg_may 7 31 rfl rfl rfl (fun hg => (o_eql (gsel (u := undef) hg) (gsel (u := undef) hg))) ?_
  refine Rg_run rfl (o_and (u := undef) rfl rfl) ?_
  refine Rg_nil ?_
  refine W_cond rfl (fun hc3 => ?_) (fun hc3 => ?_)
  · skip
    rw [Bool.and_eq_true] at hc3
    have hkl : k < b.l.length := by have := of_decide_eq_true hc3.1; omega
    have hkn : (b.l.getD k sez).n = (k : Int) + 1 := eq_of_beq hc3.2
    refine W_skip (W_block (W_region ?_))
    refine Rg_run rfl (o_moveh (v := .int _ _) rfl) ?_
    refine Rg_run rfl (o_add rfl rfl (by unfold I64; omega)) ?_
    refine Rg_run rfl (o_assignh (v := .int _ _) rfl) ?_
    refine Rg_nil ?_
    refine ⟨k + 1, ⟨?_, trivial⟩, ?_, ⟨?_, hXL1⟩, ?_⟩
    · first | rfl | (go_num) | (exact congrArg _ (by omega))
    · repeat (first | exact off_refl _ _ | exact off_mix | refine off_put rfl ?_ | refine off_putN ?_ | refine off_setL rfl ?_ | refine off_mix' rfl ?_)
    · exact ⟨by omega, fun j hj => (Nat.lt_or_ge j k).elim (hall j) (fun h => by rw [show j = k by omega, BV.mget]; exact hkn)⟩
    · omega
  have hgap : k = gap b.m := gap_uniq (by omega) hall (fun h e => by
    rw [BV.mget] at e
    have h1 : (decide ((k : Int) < (b.l.length : Int)) && ((b.l.getD k sez).n == (k : Int) + 1)) = true := by
      rw [Bool.and_eq_true]; exact ⟨decide_eq_true (by omega), beq_iff_eq.2 e⟩
    rw [h1] at hc3; cases hc3)
  refine W_exit (exAt_hit (W_seq (W_region ?_)))
  refine Rg_run rfl (o_moveh (v := .pointer _) rfl) ?_
  refine Rg_run rfl (o_nilc rfl) ?_
  refine Rg_run rfl (o_fa Tryz.underlying91 rfl Tryz.sizeOf32 rfl) ?_
  refine Rg_run rfl (o_load1 Tryz.isAgg32 rfl (hba.get 0 rfl)) ?_
  refine Rg_enter rfl (o_call1 Tryz.call41 rfl) (Ok.mono (sclone_ok _ _ _ hb.sl.trd (by omega)) ?_)
  rintro v50 w5 ⟨hown50, x6⟩
  have z7 := Bel.size x6
  replace hX := Bel.ex hX x6
  replace hb := hb.ext x6
  refine Rg_run rfl (o_moveh (v := .int _ _) rfl) ?_
  refine Rg_run rfl (o_moveh (v := .int _ _) rfl) ?_
  refine Rg_run rfl (o_add rfl rfl (by first | omega | (unfold I64; omega) | (simp; done) | (simp; omega) | (simp at *; omega))) ?_
  refine Rg_run rfl (o_moveh (v := .int _ _) rfl) ?_
  refine Rg_run rfl (o_build (cells := [.int .i64 ((k : Int) + 1), .int .i64 u, .slice none 0 0]) (vs := [(0, .int _ _), (1, .int _ _)]) rfl (by kernel_rfl)) ?_
  refine Rg_bs (vs := [.agg _]) (([⟨(k : Int) + 1, u, none, 0, 0⟩] : List SE)) rfl encSe_ok el_ses rfl rfl ⟨rfl, trivial⟩ rfl rfl rfl rfl ?_
  intro a56 w8 x9 hown56
  have z10 := Bel.size x9
  replace hX := Bel.ex hX x9
  replace hb := hb.ext x9
  replace hown50 := hown50.ext x9
  refine Rg_enter rfl (o_call3 Tryz.call42 rfl rfl rfl) (Ok.mono (sesinsV_ok _ _ _ k _ _ _ _ _ hown50 hown56 hk (by omega) (fun q h1 h2 => by omega)) ?_)
  rintro v57 w11 ⟨hown57, x12⟩
  have z13 := Bel.size x12
  replace hX := Bel.out hX x12 (fun g h1 h2 => by first | exact h2 | omega)
  replace hb := hb.keep x12 (fun g h1 h2 h3 => by omega)
  obtain ⟨a57, c57, hv57, -⟩ := hown57.sl encSe_ok
  subst hv57
  refine Rg_run rfl (o_build (cells := [.slice a57 (b.l.take k ++ ([⟨(k : Int) + 1, u, none, 0, 0⟩] : List SE) ++ b.l.drop k).length c57]) (vs := [(0, .slice _ _ _)]) rfl (by kernel_rfl)) ?_
  refine Rg_newB rfl (o_box (v := .agg _) rfl) ?_
  intro b59 w14 x15 hge59 hb59
  have hlt59 := hb59.lt
  have z16 := Bel.size x15
  replace hX := Bel.ex hX x15
  replace hb := hb.ext x15
  replace hown57 := hown57.ext x15
  refine Rg_run rfl (o_moveh (v := .int _ _) rfl) ?_
  refine Rg_run rfl (o_add rfl rfl (by first | omega | (unfold I64; omega) | (simp; done) | (simp; omega) | (simp at *; omega))) ?_
  refine Rg_run rfl (o_assignh (v := .pointer _) rfl) ?_
  refine Rg_run rfl (o_assignh (v := .int _ _) rfl) ?_
  refine Rg_run rfl o_assignc ?_
  refine Rg_nil (W_ret ?_)
  refine ⟨_, res_T (vs := [.pointer _, .int _ _, .int _ _]) rfl ⟨rfl, rfl, rfl, trivial⟩ (by simp), ?_⟩
  change Box _ _ _ [.slice a57 (b.l.take k ++ ([⟨(k : Int) + 1, u, none, 0, 0⟩] : List SE) ++ b.l.drop k).length c57] at hb59
  have e : openR b.m u = (openM b.m u, (k : Int) + 1, 0) := by rw [openR, if_neg hu, if_neg (by omega), ← hgap]
  rw [e]
  refine ⟨⟨_, rfl, ⟨fun _ => bk_new hb59 rfl hown57 (F := Lt w14.heap.size) ?_ ?_, fun h => absurd rfl h⟩⟩, hX⟩
  · exact SesAt.app (SesAt.app (hb.ws.top.sub fun s h => List.mem_of_mem_take h) (SesAt.cons Sl.none SesAt.nil)) (hb.ws.top.sub fun s h => List.mem_of_mem_drop h)
  · rw [List.append_assoc, List.singleton_append, hgap]; exact map_open

theorem sclose_ok (v0 : Value) (m : List RS) (w : World) (hb0 : BkIs w v0 m) (hm : OkM m) (n : Int) (hn : -1000 ≤ n ∧ n ≤ 1000) : Ok Tryz.prog 13 #[v0, .int .i64 n] w fun v w' => (∃ p, v = .tuple #[p, .int .i64 (closeR m n).2] ∧ BkP w' p (closeR m n).2 (closeR m n).1) ∧ Ext False w w' := by
  obtain ⟨pb, b, rfl, hb, rfl⟩ := hb0
  have hba := hb.at'
  have hbl := hb.lt
  have hml := b.mlen
  have hlen : b.l.length ≤ 64 := by have := hm.len; omega
  refine Ok_of_W 29 Tryz.func13 rfl rfl rfl ?_
  have hX : Ext False w w := Bel.refl _ _
  refine W_seq (W_region ?_)
  refine Rg_run rfl o_assignc ?_
  refine Rg_run rfl o_assignc ?_
  refine Rg_nil (W_seq (W_seq (W_region ?_)))
  refine Rg_run rfl (o_moveh (v := .pointer _) rfl) ?_
  refine Rg_run rfl (o_peq Tryz.underlying26 rfl rfl) ?_
  refine Rg_nil ?_
  refine W_cond_false rfl ?_
  refine W_skip (W_seq (W_region ?_))
  refine Rg_run rfl (o_moveh (v := .pointer _) rfl) ?_
  refine Rg_run rfl (o_moveh (v := .int _ _) rfl) ?_
  refine Rg_enter rfl (o_call2 Tryz.call43 rfl rfl) (Ok.mono (sfind_ok _ _ _ hb.is hm n hn) ?_)
  rintro _ w1 ⟨i13, rfl, hf13, x2⟩
  have z3 := Bel.size x2
  replace hX := Bel.ex hX x2
  replace hb := hb.ext x2
  replace hba := hba.ext x2
  refine Rg_run rfl (o_moveh (v := .tuple _) rfl) ?_
  refine Rg_run rfl (o_extract rfl rfl) ?_
  refine Rg_run rfl (o_extract rfl rfl) ?_
  refine Rg_run rfl (o_assignh (v := .int _ _) rfl) ?_
  refine Rg_run rfl (o_assignh (v := .bool _) rfl) ?_
  refine Rg_nil (W_seq (W_seq (W_region ?_)))
  refine Rg_run rfl (o_moveh (v := .bool _) rfl) ?_
  refine Rg_run rfl (o_not rfl) ?_
  refine Rg_nil ?_
  refine W_cond rfl (fun hc2 => ?_) (fun hc2 => ?_)
  · skip
    have hf : fnd b.m n < 0 := by simpa using hc2
    refine W_seq (W_region ?_)
    refine Rg_run rfl o_assignc ?_
    refine Rg_run rfl o_assignc ?_
    refine Rg_nil (W_ret ?_)
    refine ⟨_, res_tmp2 rfl rfl rfl, ?_⟩
    have e : closeR b.m n = (b.m, 4) := by rw [closeR, if_pos hf]
    rw [e]
    exact ⟨⟨_, rfl, ⟨fun h => by simp at h, fun _ => rfl⟩⟩, hX⟩
  have hf : ¬ fnd b.m n < 0 := by simpa using hc2
  have hfi := hf13 (by omega)
  obtain ⟨i, hi1, hi2, hi3⟩ := fnd_some (m := b.m) (n := n) (by omega)
  obtain rfl : i13 = i := by omega
  have hib : i13 < b.l.length := by omega
  refine W_skip (W_seq (W_region ?_))
  refine Rg_run rfl (o_moveh (v := .pointer _) rfl) ?_
  refine Rg_run rfl (o_nilc rfl) ?_
  refine Rg_run rfl (o_fa Tryz.underlying91 rfl Tryz.sizeOf32 rfl) ?_
  refine Rg_run rfl (o_load1 Tryz.isAgg32 rfl (hba.get 0 rfl)) ?_
  refine Rg_enter rfl (o_call1 Tryz.call41 rfl) (Ok.mono (sclone_ok _ _ _ hb.sl.trd (by omega)) ?_)
  rintro v22 w4 ⟨hown22, x5⟩
  have z6 := Bel.size x5
  replace hX := Bel.ex hX x5
  replace hb := hb.ext x5
  replace hown22 := hown22.mono (D' := fun g => w.heap.size ≤ g) (fun g h1 h2 => by omega)
  refine Rg_run rfl (o_moveh (v := .int _ _) rfl) ?_
  refine Rg_run rfl (o_moveh (v := .int _ _) rfl) ?_
  refine Rg_run rfl (o_addN (p := i13) (b := 1) rfl rfl (by omega)) ?_
  refine Rg_enter rfl (o_call3 Tryz.call44 rfl rfl rfl) (Ok.mono (sesdelV_ok _ _ i13 _ _ hown22 hib (by omega)) ?_)
  rintro v26 w7 ⟨hown26, x8⟩
  have z9 := Bel.size x8
  replace hX := Bel.out hX x8 (fun g h1 h2 => by first | exact h2 | omega)
  replace hb := hb.keep x8 (fun g h1 h2 h3 => by omega)
  obtain ⟨a26, c26, hv26, -⟩ := hown26.sl encSe_ok
  subst hv26
  refine Rg_run rfl (o_build (cells := [.slice a26 (b.l.take i13 ++ b.l.drop (i13 + 1)).length c26]) (vs := [(0, .slice _ _ _)]) rfl (by kernel_rfl)) ?_
  refine Rg_newB rfl (o_box (v := .agg _) rfl) ?_
  intro b28 w10 x11 hge28 hb28
  have hlt28 := hb28.lt
  have z12 := Bel.size x11
  replace hX := Bel.ex hX x11
  replace hb := hb.ext x11
  replace hown26 := hown26.ext x11
  refine Rg_run rfl (o_assignh (v := .pointer _) rfl) ?_
  refine Rg_run rfl o_assignc ?_
  refine Rg_nil (W_ret ?_)
  refine ⟨_, res_tmp2 rfl rfl rfl, ?_⟩
  change Box _ _ _ [.slice a26 (b.l.take i13 ++ b.l.drop (i13 + 1)).length c26] at hb28
  have e : closeR b.m n = (closeM b.m n, 0) := by rw [closeR, if_neg hf]
  rw [e]
  refine ⟨⟨_, rfl, ⟨fun _ => bk_new hb28 rfl hown26 (F := Lt w10.heap.size) ?_ ?_, fun h => absurd rfl h⟩⟩, hX⟩
  · exact SesAt.app (hb.ws.top.sub fun s h => List.mem_of_mem_take h) (hb.ws.top.sub fun s h => List.mem_of_mem_drop h)
  · rw [map_close hm hib]
    rw [BV.mget] at hi3
    rw [show (b.l.getD i13 sez).n = n from hi3]; rfl

theorem sact_ok (v0 : Value) (m : List RS) (w : World) (hb0 : BkIs w v0 m) (hm : OkM m) (n r : Int) (hn : -1000 ≤ n ∧ n ≤ 1000) (hrr : I64 r) : Ok Tryz.prog 14 #[v0, .int .i64 n, .int .i64 r] w fun v w' => (∃ p, v = .tuple #[p, .int .i64 (setR m n r true).2] ∧ BkP w' p (setR m n r true).2 (setR m n r true).1) ∧ Ext False w w' := by
  obtain ⟨pb, b, rfl, hb, rfl⟩ := hb0
  have hba := hb.at'
  have hbl := hb.lt
  have hml := b.mlen
  have hlen : b.l.length ≤ 64 := by have := hm.len; omega
  refine Ok_of_W 46 Tryz.func14 rfl rfl rfl ?_
  have hX : Ext False w w := Bel.refl _ _
  refine W_seq (W_region ?_)
  refine Rg_run rfl o_assignc ?_
  refine Rg_run rfl o_assignc ?_
  refine Rg_nil (W_seq (W_seq (W_region ?_)))
  refine Rg_run rfl (o_moveh (v := .pointer _) rfl) ?_
  refine Rg_run rfl (o_peq Tryz.underlying26 rfl rfl) ?_
  refine Rg_run rfl (o_moveh (v := .bool _) rfl) ?_
  refine Rg_on 2 13 rfl rfl ?_
  refine Rg_run rfl (o_moveh (v := .int _ _) rfl) ?_
  refine Rg_on 2 13 rfl rfl ?_
  refine Rg_enter rfl (o_call1 Tryz.call45 rfl) (Ok.mono (srole_ok _ _) ?_)
  rintro _ w1 ⟨rfl, x2⟩
  have z3 := Bel.size x2
  replace hX := Bel.ex hX x2
  replace hb := hb.ext x2
  replace hba := hba.ext x2
  refine Rg_on 2 13 rfl rfl ?_
  refine Rg_run rfl (o_not rfl) ?_
  refine Rg_run rfl (o_pickF (v := .bool _) rfl rfl) ?_
  refine Rg_nil ?_
  refine W_cond rfl (fun hc1 => ?_) (fun hc1 => ?_)
  · skip
    have hr : r < 1 ∨ 63 < r := by simp at hc1; omega
    refine W_seq (W_region ?_)
    refine Rg_run rfl o_assignc ?_
    refine Rg_run rfl o_assignc ?_
    refine Rg_nil (W_ret ?_)
    refine ⟨_, res_tmp2 rfl rfl rfl, ?_⟩
    have e : setR b.m n r true = (b.m, 1) := by rw [setR, if_pos hr]
    rw [e]
    exact ⟨⟨_, rfl, ⟨fun h => by simp at h, fun _ => rfl⟩⟩, hX⟩
  have hr : ¬ (r < 1 ∨ 63 < r) := by simp at hc1; omega
  obtain ⟨rn, rfl⟩ : ∃ q : Nat, r = q := ⟨r.toNat, by omega⟩
  refine W_skip (W_seq (W_region ?_))
  refine Rg_run rfl (o_moveh (v := .pointer _) rfl) ?_
  refine Rg_run rfl (o_moveh (v := .int _ _) rfl) ?_
  refine Rg_enter rfl (o_call2 Tryz.call43 rfl rfl) (Ok.mono (sfind_ok _ _ _ hb.is hm n hn) ?_)
  rintro _ w4 ⟨i21, rfl, hf21, x5⟩
  have z6 := Bel.size x5
  replace hX := Bel.ex hX x5
  replace hb := hb.ext x5
  replace hba := hba.ext x5
  refine Rg_run rfl (o_moveh (v := .tuple _) rfl) ?_
  refine Rg_run rfl (o_extract rfl rfl) ?_
  refine Rg_run rfl (o_extract rfl rfl) ?_
  refine Rg_run rfl (o_assignh (v := .int _ _) rfl) ?_
  refine Rg_run rfl (o_assignh (v := .bool _) rfl) ?_
  refine Rg_nil (W_seq (W_seq (W_region ?_)))
  refine Rg_run rfl (o_moveh (v := .bool _) rfl) ?_
  refine Rg_run rfl (o_not rfl) ?_
  refine Rg_nil ?_
  refine W_cond rfl (fun hc2 => ?_) (fun hc2 => ?_)
  · skip
    have hf : fnd b.m n < 0 := by simpa using hc2
    refine W_seq (W_region ?_)
    refine Rg_run rfl o_assignc ?_
    refine Rg_run rfl o_assignc ?_
    refine Rg_nil (W_ret ?_)
    refine ⟨_, res_tmp2 rfl rfl rfl, ?_⟩
    have e : setR b.m n (rn : Int) true = (b.m, 4) := by rw [setR, if_neg hr, if_pos hf]
    rw [e]
    exact ⟨⟨_, rfl, ⟨fun h => by simp at h, fun _ => rfl⟩⟩, hX⟩
  have hf : ¬ fnd b.m n < 0 := by simpa using hc2
  have hfi := hf21 (by omega)
  obtain ⟨i, hi1, hi2, hi3⟩ := fnd_some (m := b.m) (n := n) (by omega)
  obtain rfl : i21 = i := by omega
  have hib : i21 < b.l.length := by omega
  refine W_skip (W_seq (W_region ?_))
  refine Rg_run rfl (o_moveh (v := .pointer _) rfl) ?_
  refine Rg_run rfl (o_nilc rfl) ?_
  refine Rg_run rfl (o_fa Tryz.underlying91 rfl Tryz.sizeOf32 rfl) ?_
  refine Rg_run rfl (o_load1 Tryz.isAgg32 rfl (hba.get 0 rfl)) ?_
  refine Rg_run rfl (o_moveh (v := .int _ _) rfl) ?_
  refine Rg_run rfl (o_iaR Tryz.underlying32 Tryz.sizeOf38 hb.sl rfl rfl (by first | omega | (unfold I64; omega) | (simp; done) | (simp; omega) | (simp at *; omega))) ?_
  refine Rg_run rfl (o_ldRS Tryz.isAgg38 Tryz.sizeOf38 hb.sl rfl (getE sez hib)) ?_
  refine Rg_alst rfl rfl Tryz.zeroValue38 rfl Tryz.sizeOf38 (fun _ => rfl) rfl rfl ?_
  intro b10 w7 x8 hge10 hb10
  have hlt10 := hb10.lt
  change Box _ _ _ (encSe _) at hb10
  have z9 := Bel.size x8
  replace hX := Bel.ex hX x8
  replace hb := hb.ext x8
  refine Rg_nil (W_seq (W_seq (W_region ?_)))
  refine Rg_run rfl (o_fa Tryz.underlying38 rfl Tryz.sizeOf36 rfl) ?_
  refine Rg_run rfl (o_loadS Tryz.isAgg36 Tryz.sizeOf36 rfl (hb10.at.sub 2 1) rfl) ?_
  refine Rg_run rfl (o_moveh (v := .int _ _) rfl) ?_
  refine Rg_enter rfl (o_call2 Tryz.call46 rfl rfl) (Ok.mono (bhas_ok _ ⟨(b.l.getD i21 sez).a, (b.l.getD i21 sez).c, (b.l.getD i21 sez).x⟩ _ (hb.ws _ (gm (z := sez) hib)) _ (by unfold I64; omega)) ?_)
  rintro _ w10 ⟨rfl, x11⟩
  have z12 := Bel.size x11
  replace hX := Bel.ex hX x11
  replace hb := hb.ext x11
  replace hb10 := hb10.ext x11
  refine Rg_nil ?_
  refine W_cond rfl (fun hc3 => ?_) (fun hc3 => ?_)
  · skip
    have hh := hc3; rw [hasW_nat] at hh
    refine W_seq (W_region ?_)
    refine Rg_run rfl o_assignc ?_
    refine Rg_run rfl o_assignc ?_
    refine Rg_nil (W_ret ?_)
    refine ⟨_, res_tmp2 rfl rfl rfl, ?_⟩
    have hfn : (fnd b.m n).toNat = i21 := by omega
    have hx0 : (b.m.getD i21 rz).x = (b.l.getD i21 sez).x := by rw [BV.mget]; rfl
    have e : setR b.m n (rn : Int) true = (b.m, 5) := by rw [setR, if_neg hr, if_neg hf, hfn, hx0, if_pos (by rw [hasB, Int.toNat_natCast]; exact hh)]; rfl
    rw [e]
    exact ⟨⟨_, rfl, ⟨fun h => by simp at h, fun _ => rfl⟩⟩, hX⟩
  have hh := hc3; rw [hasW_nat] at hh
  refine W_skip (W_seq (W_region ?_))
  refine Rg_run rfl (o_fa Tryz.underlying38 rfl Tryz.sizeOf36 rfl) ?_
  refine Rg_run rfl (o_loadS Tryz.isAgg36 Tryz.sizeOf36 rfl (hb10.at.sub 2 1) rfl) ?_
  refine Rg_run rfl (o_moveh (v := .int _ _) rfl) ?_
  refine Rg_enter rfl (o_call2 Tryz.call47 rfl rfl) (Ok.mono (bwith_ok _ ⟨(b.l.getD i21 sez).a, (b.l.getD i21 sez).c, (b.l.getD i21 sez).x⟩ _ (hb.ws _ (gm (z := sez) hib)) rn (by omega)) ?_)
  rintro _ w13 ⟨a40, c40, rfl, hq40, x14⟩
  have z15 := Bel.size x14
  replace hX := Bel.ex hX x14
  replace hb := hb.ext x14
  replace hb10 := hb10.ext x14
  refine Rg_run rfl (o_fa Tryz.underlying38 rfl Tryz.sizeOf36 rfl) ?_
  refine Rg_store (v := .agg _) rfl Tryz.sizeOf36 rfl rfl hb10 rfl rfl rfl ?_
  intro w16 c17 hb10
  change Box _ _ _ ([.int _ _, .int _ _, .slice _ _ _]) at hb10
  have z18 := Bel.size c17
  replace hX := Bel.out hX c17 (fun g h1 h2 => by first | exact h2 | omega)
  replace hb := hb.keep c17 (fun g h1 h2 h3 => by omega)
  replace hq40 := hq40.keep c17 (fun g h1 h2 h3 => by omega)
  refine Rg_nil (W_seq (W_region ?_))
  refine Rg_run rfl (o_moveh (v := .pointer _) rfl) ?_
  refine Rg_run rfl (o_moveh (v := .int _ _) rfl) ?_
  refine Rg_run rfl (o_loadS Tryz.isAgg38 Tryz.sizeOf38 rfl hb10.at rfl) ?_
  refine Rg_enter rfl (o_call3 Tryz.call48 rfl rfl rfl) (Ok.mono (swith_ok _ b.m _ hb.is hm i21 ⟨(b.l.getD i21 sez).n, (b.l.getD i21 sez).u, a40, c40, (b.l.getD i21 sez).x ||| oneW rn⟩ _ hq40 (by omega)) ?_)
  rintro v45 w19 ⟨hbk45, x20⟩
  have z21 := Bel.size x20
  replace hX := Bel.ex hX x20
  refine Rg_run rfl (o_assignh (v := v45) rfl) ?_
  refine Rg_run rfl o_assignc ?_
  refine Rg_nil (W_ret ?_)
  refine ⟨_, res_tmp2 rfl rfl rfl, ?_⟩
  have hfn : (fnd b.m n).toNat = i21 := by omega
  have hx0 : (b.m.getD i21 rz).x = (b.l.getD i21 sez).x := by rw [BV.mget]; rfl
  have e : setR b.m n (rn : Int) true = (b.m.set i21 (⟨(b.l.getD i21 sez).n, (b.l.getD i21 sez).u, (b.l.getD i21 sez).x ||| oneW rn⟩ : RS), 0) := by
    rw [setR, if_neg hr, if_neg hf, hfn, hx0, if_neg (by rw [hasB, Int.toNat_natCast, hh]; simp), Int.toNat_natCast, xor_or (by omega) hh, setM, BV.mget]; rfl
  rw [e]
  exact ⟨⟨v45, rfl, ⟨fun _ => hbk45, fun h => absurd rfl h⟩⟩, hX⟩

theorem sdeact_ok (v0 : Value) (m : List RS) (w : World) (hb0 : BkIs w v0 m) (hm : OkM m) (n r : Int) (hn : -1000 ≤ n ∧ n ≤ 1000) (hrr : I64 r) : Ok Tryz.prog 15 #[v0, .int .i64 n, .int .i64 r] w fun v w' => (∃ p, v = .tuple #[p, .int .i64 (setR m n r false).2] ∧ BkP w' p (setR m n r false).2 (setR m n r false).1) ∧ Ext False w w' := by
  obtain ⟨pb, b, rfl, hb, rfl⟩ := hb0
  have hba := hb.at'
  have hbl := hb.lt
  have hml := b.mlen
  have hlen : b.l.length ≤ 64 := by have := hm.len; omega
  refine Ok_of_W 55 Tryz.func15 rfl rfl rfl ?_
  have hX : Ext False w w := Bel.refl _ _
  refine W_seq (W_region ?_)
  refine Rg_run rfl o_assignc ?_
  refine Rg_run rfl o_assignc ?_
  refine Rg_nil (W_seq (W_seq (W_region ?_)))
  refine Rg_run rfl (o_moveh (v := .pointer _) rfl) ?_
  refine Rg_run rfl (o_peq Tryz.underlying26 rfl rfl) ?_
  refine Rg_run rfl (o_moveh (v := .bool _) rfl) ?_
  refine Rg_on 2 13 rfl rfl ?_
  refine Rg_run rfl (o_moveh (v := .int _ _) rfl) ?_
  refine Rg_on 2 13 rfl rfl ?_
  refine Rg_enter rfl (o_call1 Tryz.call45 rfl) (Ok.mono (srole_ok _ _) ?_)
  rintro _ w1 ⟨rfl, x2⟩
  have z3 := Bel.size x2
  replace hX := Bel.ex hX x2
  replace hb := hb.ext x2
  replace hba := hba.ext x2
  refine Rg_on 2 13 rfl rfl ?_
  refine Rg_run rfl (o_not rfl) ?_
  refine Rg_run rfl (o_pickF (v := .bool _) rfl rfl) ?_
  refine Rg_nil ?_
  refine W_cond rfl (fun hc1 => ?_) (fun hc1 => ?_)
  · skip
    have hr : r < 1 ∨ 63 < r := by simp at hc1; omega
    refine W_seq (W_region ?_)
    refine Rg_run rfl o_assignc ?_
    refine Rg_run rfl o_assignc ?_
    refine Rg_nil (W_ret ?_)
    refine ⟨_, res_tmp2 rfl rfl rfl, ?_⟩
    have e : setR b.m n r false = (b.m, 1) := by rw [setR, if_pos hr]
    rw [e]
    exact ⟨⟨_, rfl, ⟨fun h => by simp at h, fun _ => rfl⟩⟩, hX⟩
  have hr : ¬ (r < 1 ∨ 63 < r) := by simp at hc1; omega
  obtain ⟨rn, rfl⟩ : ∃ q : Nat, r = q := ⟨r.toNat, by omega⟩
  refine W_skip (W_seq (W_region ?_))
  refine Rg_run rfl (o_moveh (v := .pointer _) rfl) ?_
  refine Rg_run rfl (o_moveh (v := .int _ _) rfl) ?_
  refine Rg_enter rfl (o_call2 Tryz.call43 rfl rfl) (Ok.mono (sfind_ok _ _ _ hb.is hm n hn) ?_)
  rintro _ w4 ⟨i21, rfl, hf21, x5⟩
  have z6 := Bel.size x5
  replace hX := Bel.ex hX x5
  replace hb := hb.ext x5
  replace hba := hba.ext x5
  refine Rg_run rfl (o_moveh (v := .tuple _) rfl) ?_
  refine Rg_run rfl (o_extract rfl rfl) ?_
  refine Rg_run rfl (o_extract rfl rfl) ?_
  refine Rg_run rfl (o_assignh (v := .int _ _) rfl) ?_
  refine Rg_run rfl (o_assignh (v := .bool _) rfl) ?_
  refine Rg_nil (W_seq (W_seq (W_region ?_)))
  refine (Decidable.em (0 ≤ fnd b.m n)).elim (fun hf0 => ?_) (fun hf0 => ?_)
  · skip
    refine Rg_run rfl (o_moveh (v := .bool _) rfl) ?_
    refine Rg_run rfl (o_not rfl) ?_
    refine Rg_run rfl (o_moveh (v := .bool _) rfl) ?_
    have hfi := hf21 hf0
    obtain ⟨i, hi1, hi2, hi3⟩ := fnd_some (m := b.m) (n := n) hf0
    obtain rfl : i21 = i := by omega
    have hib : i21 < b.l.length := by omega
    refine Rg_on 2 26 rfl (congrArg Value.bool (show (!decide (0 ≤ fnd b.m n)) = false by simp; omega)) ?_
    refine Rg_run rfl (o_moveh (v := .pointer _) rfl) ?_
    refine Rg_on 2 26 rfl (congrArg Value.bool (show (!decide (0 ≤ fnd b.m n)) = false by simp; omega)) ?_
    refine Rg_run rfl (o_nilc rfl) ?_
    refine Rg_on 2 26 rfl (congrArg Value.bool (show (!decide (0 ≤ fnd b.m n)) = false by simp; omega)) ?_
    refine Rg_run rfl (o_fa Tryz.underlying91 rfl Tryz.sizeOf32 rfl) ?_
    refine Rg_on 2 26 rfl (congrArg Value.bool (show (!decide (0 ≤ fnd b.m n)) = false by simp; omega)) ?_
    refine Rg_run rfl (o_load1 Tryz.isAgg32 rfl (hba.get 0 rfl)) ?_
    refine Rg_on 2 26 rfl (congrArg Value.bool (show (!decide (0 ≤ fnd b.m n)) = false by simp; omega)) ?_
    refine Rg_run rfl (o_moveh (v := .int _ _) rfl) ?_
    refine Rg_on 2 26 rfl (congrArg Value.bool (show (!decide (0 ≤ fnd b.m n)) = false by simp; omega)) ?_
    refine Rg_run rfl (o_iaR Tryz.underlying32 Tryz.sizeOf38 hb.sl rfl rfl (by first | omega | (unfold I64; omega) | (simp; done) | (simp; omega) | (simp at *; omega))) ?_
    refine Rg_on 2 26 rfl (congrArg Value.bool (show (!decide (0 ≤ fnd b.m n)) = false by simp; omega)) ?_
    refine Rg_run rfl (o_faE Tryz.underlying38 rfl Tryz.sizeOf36 hb.sl rfl (getE sez hib)) ?_
    refine Rg_on 2 26 rfl (congrArg Value.bool (show (!decide (0 ≤ fnd b.m n)) = false by simp; omega)) ?_
    refine Rg_run rfl (o_ldES (j := 2) Tryz.isAgg36 Tryz.sizeOf36 hb.sl rfl (getE sez hib) rfl rfl) ?_
    refine Rg_on 2 26 rfl (congrArg Value.bool (show (!decide (0 ≤ fnd b.m n)) = false by simp; omega)) ?_
    refine Rg_run rfl (o_moveh (v := .int _ _) rfl) ?_
    refine Rg_on 2 26 rfl (congrArg Value.bool (show (!decide (0 ≤ fnd b.m n)) = false by simp; omega)) ?_
    refine Rg_enter rfl (o_call2 Tryz.call46 rfl rfl) (Ok.mono (bhas_ok _ ⟨(b.l.getD i21 sez).a, (b.l.getD i21 sez).c, (b.l.getD i21 sez).x⟩ _ (hb.ws _ (gm (z := sez) hib)) _ (by unfold I64; omega)) ?_)
    rintro _ w7 ⟨rfl, x8⟩
    have z9 := Bel.size x8
    replace hX := Bel.ex hX x8
    replace hb := hb.ext x8
    replace hba := hba.ext x8
    refine Rg_on 2 26 rfl (congrArg Value.bool (show (!decide (0 ≤ fnd b.m n)) = false by simp; omega)) ?_
    refine Rg_run rfl (o_not rfl) ?_
    refine Rg_run rfl (o_pickF (v := .bool _) (congrArg Value.bool (show (!decide (0 ≤ fnd b.m n)) = false by simp; omega)) rfl) ?_
    refine Rg_nil ?_
    refine W_cond rfl (fun hc2 => ?_) (fun hc2 => ?_)
    · skip
      have hh : (b.l.getD i21 sez).x.getLsbD rn = false := by rw [hasW_nat] at hc2; simpa using hc2
      refine W_seq (W_region ?_)
      refine Rg_run rfl o_assignc ?_
      refine Rg_run rfl o_assignc ?_
      refine Rg_nil (W_ret ?_)
      refine ⟨_, res_tmp2 rfl rfl rfl, ?_⟩
      have hfn : (fnd b.m n).toNat = i21 := by omega
      have hx0 : (b.m.getD i21 rz).x = (b.l.getD i21 sez).x := by rw [BV.mget]; rfl
      have e : setR b.m n (rn : Int) false = (b.m, 4) := by rw [setR, if_neg hr, if_neg (by omega), hfn, hx0, if_pos (by rw [hasB, Int.toNat_natCast]; exact hh)]; rfl
      rw [e]
      exact ⟨⟨_, rfl, ⟨fun h => by simp at h, fun _ => rfl⟩⟩, hX⟩
    have hh : (b.l.getD i21 sez).x.getLsbD rn = true := by rw [hasW_nat] at hc2; simpa using hc2
    refine W_skip (W_seq (W_region ?_))
    refine Rg_run rfl (o_moveh (v := .pointer _) rfl) ?_
    refine Rg_run rfl (o_nilc rfl) ?_
    refine Rg_run rfl (o_fa Tryz.underlying91 rfl Tryz.sizeOf32 rfl) ?_
    refine Rg_run rfl (o_load1 Tryz.isAgg32 rfl (hba.get 0 rfl)) ?_
    refine Rg_run rfl (o_moveh (v := .int _ _) rfl) ?_
    refine Rg_run rfl (o_iaR Tryz.underlying32 Tryz.sizeOf38 hb.sl rfl rfl (by first | omega | (unfold I64; omega) | (simp; done) | (simp; omega) | (simp at *; omega))) ?_
    refine Rg_run rfl (o_ldRS Tryz.isAgg38 Tryz.sizeOf38 hb.sl rfl (getE sez hib)) ?_
    refine Rg_alst rfl rfl Tryz.zeroValue38 rfl Tryz.sizeOf38 (fun _ => rfl) rfl rfl ?_
    intro b10 w10 x11 hge10 hb10
    have hlt10 := hb10.lt
    change Box _ _ _ (encSe _) at hb10
    have z12 := Bel.size x11
    replace hX := Bel.ex hX x11
    replace hb := hb.ext x11
    refine Rg_nil (W_seq (W_region ?_))
    refine Rg_run rfl (o_fa Tryz.underlying38 rfl Tryz.sizeOf36 rfl) ?_
    refine Rg_run rfl (o_loadS Tryz.isAgg36 Tryz.sizeOf36 rfl (hb10.at.sub 2 1) rfl) ?_
    refine Rg_run rfl (o_moveh (v := .int _ _) rfl) ?_
    refine Rg_enter rfl (o_call2 Tryz.call49 rfl rfl) (Ok.mono (bwithout_ok _ ⟨(b.l.getD i21 sez).a, (b.l.getD i21 sez).c, (b.l.getD i21 sez).x⟩ _ (hb.ws _ (gm (z := sez) hib)) rn (by omega) hh) ?_)
    rintro _ w13 ⟨a49, c49, rfl, hq49, x14⟩
    have z15 := Bel.size x14
    replace hX := Bel.ex hX x14
    replace hb := hb.ext x14
    replace hb10 := hb10.ext x14
    refine Rg_run rfl (o_fa Tryz.underlying38 rfl Tryz.sizeOf36 rfl) ?_
    refine Rg_store (v := .agg _) rfl Tryz.sizeOf36 rfl rfl hb10 rfl rfl rfl ?_
    intro w16 c17 hb10
    change Box _ _ _ ([.int _ _, .int _ _, .slice _ _ _]) at hb10
    have z18 := Bel.size c17
    replace hX := Bel.out hX c17 (fun g h1 h2 => by first | exact h2 | omega)
    replace hb := hb.keep c17 (fun g h1 h2 h3 => by omega)
    replace hq49 := hq49.keep c17 (fun g h1 h2 h3 => by omega)
    refine Rg_nil (W_seq (W_region ?_))
    refine Rg_run rfl (o_moveh (v := .pointer _) rfl) ?_
    refine Rg_run rfl (o_moveh (v := .int _ _) rfl) ?_
    refine Rg_run rfl (o_loadS Tryz.isAgg38 Tryz.sizeOf38 rfl hb10.at rfl) ?_
    refine Rg_enter rfl (o_call3 Tryz.call48 rfl rfl rfl) (Ok.mono (swith_ok _ b.m _ hb.is hm i21 ⟨(b.l.getD i21 sez).n, (b.l.getD i21 sez).u, a49, c49, (b.l.getD i21 sez).x &&& ~~~(oneW rn)⟩ _ hq49 (by omega)) ?_)
    rintro v54 w19 ⟨hbk54, x20⟩
    have z21 := Bel.size x20
    replace hX := Bel.ex hX x20
    refine Rg_run rfl (o_assignh (v := v54) rfl) ?_
    refine Rg_run rfl o_assignc ?_
    refine Rg_nil (W_ret ?_)
    refine ⟨_, res_tmp2 rfl rfl rfl, ?_⟩
    have hfn : (fnd b.m n).toNat = i21 := by omega
    have hx0 : (b.m.getD i21 rz).x = (b.l.getD i21 sez).x := by rw [BV.mget]; rfl
    have e : setR b.m n (rn : Int) false = (b.m.set i21 (⟨(b.l.getD i21 sez).n, (b.l.getD i21 sez).u, (b.l.getD i21 sez).x &&& ~~~(oneW rn)⟩ : RS), 0) := by
      rw [setR, if_neg hr, if_neg (by omega), hfn, hx0, if_neg (by rw [hasB, Int.toNat_natCast, hh]; simp), Int.toNat_natCast, xor_out (by omega) hh, setM, BV.mget]; rfl
    rw [e]
    exact ⟨⟨v54, rfl, ⟨fun _ => hbk54, fun h => absurd rfl h⟩⟩, hX⟩
  refine Rg_run rfl (o_moveh (v := .bool _) rfl) ?_
  refine Rg_run rfl (o_not rfl) ?_
  refine Rg_run rfl (o_moveh (v := .bool _) rfl) ?_
  refine Rg_off 2 26 rfl rfl (congrArg Value.bool (show (!decide (0 ≤ fnd b.m n)) = true by simp; omega)) rfl rfl ?_
  refine Rg_off 2 26 rfl rfl (congrArg Value.bool (show (!decide (0 ≤ fnd b.m n)) = true by simp; omega)) rfl rfl ?_
  refine Rg_off 2 26 rfl rfl (congrArg Value.bool (show (!decide (0 ≤ fnd b.m n)) = true by simp; omega)) rfl rfl ?_
  refine Rg_off 2 26 rfl rfl (congrArg Value.bool (show (!decide (0 ≤ fnd b.m n)) = true by simp; omega)) rfl rfl ?_
  refine Rg_off 2 26 rfl rfl (congrArg Value.bool (show (!decide (0 ≤ fnd b.m n)) = true by simp; omega)) rfl rfl ?_
  refine Rg_off 2 26 rfl rfl (congrArg Value.bool (show (!decide (0 ≤ fnd b.m n)) = true by simp; omega)) rfl rfl ?_
  refine Rg_off 2 26 rfl rfl (congrArg Value.bool (show (!decide (0 ≤ fnd b.m n)) = true by simp; omega)) rfl rfl ?_
  refine Rg_off 2 26 rfl rfl (congrArg Value.bool (show (!decide (0 ≤ fnd b.m n)) = true by simp; omega)) rfl rfl ?_
  refine Rg_off 2 26 rfl rfl (congrArg Value.bool (show (!decide (0 ≤ fnd b.m n)) = true by simp; omega)) rfl rfl ?_
  refine Rg_off 2 26 rfl rfl (congrArg Value.bool (show (!decide (0 ≤ fnd b.m n)) = true by simp; omega)) rfl rfl ?_
  refine Rg_off 2 26 rfl rfl (congrArg Value.bool (show (!decide (0 ≤ fnd b.m n)) = true by simp; omega)) rfl rfl ?_
  refine Rg_run rfl (o_pickT (v := .bool _) (congrArg Value.bool (show (!decide (0 ≤ fnd b.m n)) = true by simp; omega)) rfl) ?_
  refine Rg_nil ?_
  refine W_cond_true rfl ?_
  refine W_seq (W_region ?_)
  refine Rg_run rfl o_assignc ?_
  refine Rg_run rfl o_assignc ?_
  refine Rg_nil (W_ret ?_)
  refine ⟨_, res_tmp2 rfl rfl rfl, ?_⟩
  have e : setR b.m n (rn : Int) false = (b.m, 4) := by rw [setR, if_neg hr, if_pos (by omega)]
  rw [e]
  exact ⟨⟨_, rfl, ⟨fun h => by simp at h, fun _ => rfl⟩⟩, hX⟩

theorem slist_ok (v0 : Value) (m : List RS) (w : World) (hb0 : BkIs w v0 m) (hm : OkM m) : Ok Tryz.prog 10 #[v0] w fun v w' => (∃ l, Own encSe 3 38 (Fsh w w') w' v l ∧ SesAt (Lt w'.heap.size) w' l ∧ l.map SE.rs = m) ∧ Ext False w w' := by
  obtain ⟨pb, b, rfl, hb, rfl⟩ := hb0
  have hba := hb.at'
  have hbl := hb.lt
  have hml := b.mlen
  have hlen : b.l.length ≤ 64 := by have := hm.len; omega
  refine Ok_of_W 10 Tryz.func10 rfl rfl rfl ?_
  have hX : Ext False w w := Bel.refl _ _
  refine W_seq (W_region ?_)
  refine Rg_run rfl o_assignc ?_
  refine Rg_nil (W_seq (W_seq (W_region ?_)))
  refine Rg_run rfl (o_moveh (v := .pointer _) rfl) ?_
  refine Rg_run rfl (o_peq Tryz.underlying26 rfl rfl) ?_
  refine Rg_nil ?_
  refine W_cond_false rfl ?_
  refine W_skip (W_seq (W_region ?_))
  refine Rg_run rfl (o_moveh (v := .pointer _) rfl) ?_
  refine Rg_run rfl (o_nilc rfl) ?_
  refine Rg_run rfl (o_fa Tryz.underlying91 rfl Tryz.sizeOf32 rfl) ?_
  refine Rg_run rfl (o_load1 Tryz.isAgg32 rfl (hba.get 0 rfl)) ?_
  refine Rg_enter rfl (o_call1 Tryz.call41 rfl) (Ok.mono (sclone_ok _ _ _ hb.sl.trd (by omega)) ?_)
  rintro v9 w1 ⟨hown9, x2⟩
  have z3 := Bel.size x2
  replace hX := Bel.ex hX x2
  replace hb := hb.ext x2
  replace hown9 := hown9.mono (D' := fun g => w.heap.size ≤ g) (fun g h1 h2 => by omega)
  refine Rg_run rfl (o_assignh (v := v9) rfl) ?_
  refine Rg_nil (W_ret ?_)
  refine ⟨_, res_tmp rfl rfl, ?_⟩
  exact ⟨⟨b.l, hown9.mono (fun g h1 h2 => ⟨by omega, by omega⟩), hb.ws.top, rfl⟩, hX⟩

theorem slen_ok (v0 : Value) (m : List RS) (w : World) (hb0 : BkIs w v0 m) (hm : OkM m) : Ok Tryz.prog 12 #[v0] w fun v w' => v = .int .i64 (m.length : Int) ∧ Ext False w w' := by
  refine Ok_of_W 6 Tryz.func12 rfl rfl rfl ?_
  have hX : Ext False w w := Bel.refl _ _
  refine W_seq (W_region ?_)
  refine Rg_run rfl o_assignc ?_
  refine Rg_nil (W_seq (W_region ?_))
  refine Rg_run rfl (o_moveh (v := v0) rfl) ?_
  refine Rg_enter rfl (o_call1 Tryz.call10 rfl) (Ok.mono (slist_ok _ _ _ hb0 hm) ?_)
  rintro v4 w1 ⟨⟨l4, hown4, hws4, hl4⟩, x2⟩
  replace hX := Bel.ex hX x2
  have hll4 := congrArg List.length hl4
  rw [List.length_map] at hll4
  refine Rg_run rfl (o_llenO Tryz.underlying32 rfl hown4) ?_
  refine Rg_run rfl (o_assignh (v := .int _ _) rfl) ?_
  refine Rg_nil (W_ret ?_)
  refine ⟨_, res_tmp rfl rfl, ?_⟩
  refine ⟨congrArg (Value.int .i64) ?_, hX⟩
  all_goals (rw [hll4])

theorem sget_ok (pb : Nat) (b : BV) (Fb : Nat → Prop) (w : World) (hb : BkAt Fb w pb b) (hm : OkM b.m) (n : Int) (hn : -1000 ≤ n ∧ n ≤ 1000) : Ok Tryz.prog 75 #[.pointer (some ⟨pb, 0, none⟩), .int .i64 n] w fun v w' => (∃ s : SE, v = .tuple #[.agg (encSe s).toArray, .bool (decide (0 ≤ fnd b.m n))] ∧ Sl encU 1 Fb w' s.a s.c (wl s.x) ∧ (0 ≤ fnd b.m n → s.rs = b.m.getD (fnd b.m n).toNat rz) ∧ (fnd b.m n < 0 → s = sez)) ∧ Ext False w w' := by
  replace hb := hb.mono (F' := fun g => Fb g ∧ g < w.heap.size) (fun g h1 h2 => ⟨h2, h1⟩)
  have hba := hb.at'
  have hbl := hb.lt
  have hml := b.mlen
  have hlen : b.l.length ≤ 64 := by have := hm.len; omega
  refine Ok_of_W 27 Tryz.func75 rfl rfl rfl ?_
  have hX : Ext False w w := Bel.refl _ _
  refine W_seq (W_region ?_)
  refine Rg_newB rfl (o_alloc Tryz.zeroValue38) ?_
  intro b4 w1 x2 hge4 hb4
  have hlt4 := hb4.lt
  change Box _ _ _ ([.int _ _, .int _ _, .slice _ _ _]) at hb4
  have z3 := Bel.size x2
  replace hX := Bel.ex hX x2
  replace hb := hb.ext x2
  replace hba := hba.ext x2
  refine Rg_run rfl o_assignc ?_
  refine Rg_nil (W_seq (W_seq (W_region ?_)))
  refine Rg_run rfl (o_moveh (v := .pointer _) rfl) ?_
  refine Rg_run rfl (o_peq Tryz.underlying26 rfl rfl) ?_
  refine Rg_nil ?_
  refine W_cond_false rfl ?_
  refine W_skip (W_seq (W_region ?_))
  refine Rg_run rfl (o_moveh (v := .pointer _) rfl) ?_
  refine Rg_run rfl (o_moveh (v := .int _ _) rfl) ?_
  refine Rg_enter rfl (o_call2 Tryz.call43 rfl rfl) (Ok.mono (sfind_ok _ _ _ hb.is hm n hn) ?_)
  rintro _ w4 ⟨i14, rfl, hf14, x5⟩
  have z6 := Bel.size x5
  replace hX := Bel.ex hX x5
  replace hb := hb.ext x5
  replace hba := hba.ext x5
  replace hb4 := hb4.ext x5
  refine Rg_run rfl (o_moveh (v := .tuple _) rfl) ?_
  refine Rg_run rfl (o_extract rfl rfl) ?_
  refine Rg_run rfl (o_extract rfl rfl) ?_
  refine Rg_run rfl (o_assignh (v := .int _ _) rfl) ?_
  refine Rg_run rfl (o_assignh (v := .bool _) rfl) ?_
  refine Rg_nil (W_seq (W_seq (W_region ?_)))
  refine Rg_run rfl (o_moveh (v := .bool _) rfl) ?_
  refine Rg_run rfl (o_not rfl) ?_
  refine Rg_nil ?_
  refine W_cond rfl (fun hc2 => ?_) (fun hc2 => ?_)
  · skip
    have hf : fnd b.m n < 0 := by simpa using hc2
    refine W_seq (W_region ?_)
    refine Rg_run rfl (o_build (cells := encSe sez) (vs := []) rfl (by kernel_rfl)) ?_
    refine Rg_storeW (v := .agg _) rfl Tryz.sizeOf38 rfl rfl hb4 rfl rfl rfl ?_
    intro w7 c8 hb4
    change Box _ _ _ (encSe _) at hb4
    have z9 := Bel.size c8
    replace hX := Bel.out hX c8 (fun g h1 h2 => by first | exact h2 | omega)
    refine Rg_run rfl o_assignc ?_
    refine Rg_nil (W_ret ?_)
    refine ⟨_, res_T (vs := [.agg _, .bool _]) rfl ⟨rv_cellS Tryz.isAgg38 Tryz.sizeOf38 rfl hb4.at rfl, rfl, trivial⟩ (by simp), ?_⟩
    rw [decide_eq_false (by omega)]
    exact ⟨⟨sez, rfl, Sl.none, fun h => by omega, fun _ => rfl⟩, hX⟩
  have hf : ¬ fnd b.m n < 0 := by simpa using hc2
  have hfi := hf14 (by omega)
  obtain ⟨i, hi1, hi2, hi3⟩ := fnd_some (m := b.m) (n := n) (by omega)
  obtain rfl : i14 = i := by omega
  have hib : i14 < b.l.length := by omega
  refine W_skip (W_seq (W_region ?_))
  refine Rg_run rfl (o_moveh (v := .pointer _) rfl) ?_
  refine Rg_run rfl (o_nilc rfl) ?_
  refine Rg_run rfl (o_fa Tryz.underlying91 rfl Tryz.sizeOf32 rfl) ?_
  refine Rg_run rfl (o_load1 Tryz.isAgg32 rfl (hba.get 0 rfl)) ?_
  refine Rg_run rfl (o_moveh (v := .int _ _) rfl) ?_
  refine Rg_run rfl (o_iaR Tryz.underlying32 Tryz.sizeOf38 hb.sl rfl rfl (by first | omega | (unfold I64; omega) | (simp; done) | (simp; omega) | (simp at *; omega))) ?_
  refine Rg_run rfl (o_ldRS Tryz.isAgg38 Tryz.sizeOf38 hb.sl rfl (getE sez hib)) ?_
  refine Rg_storeW (v := .agg _) rfl Tryz.sizeOf38 rfl rfl hb4 rfl rfl rfl ?_
  intro w10 c11 hb4
  change Box _ _ _ (encSe _) at hb4
  have z12 := Bel.size c11
  replace hX := Bel.out hX c11 (fun g h1 h2 => by first | exact h2 | omega)
  replace hb := hb.keep c11 (fun g h1 h2 h3 => by omega)
  refine Rg_run rfl o_assignc ?_
  refine Rg_nil (W_ret ?_)
  refine ⟨_, res_T (vs := [.agg _, .bool _]) rfl ⟨rv_cellS Tryz.isAgg38 Tryz.sizeOf38 rfl hb4.at rfl, rfl, trivial⟩ (by simp), ?_⟩
  rw [decide_eq_true (by omega)]
  refine ⟨⟨b.l.getD i14 sez, rfl, (hb.ws _ (gm (z := sez) hib)).mono (fun g h1 h2 => h2.1), fun _ => ?_, fun h => by omega⟩, hX⟩
  rw [hfi, Int.toNat_natCast, BV.mget]

theorem seff_ok (v0 : Value) (m : List RS) (w : World) (hb0 : BkIs w v0 m) (hm : OkM m) (n : Int) (hn : -1000 ≤ n ∧ n ≤ 1000) (s : SV) (Gs : Nat → Prop) (hs : Sl encU 1 Gs w s.a s.c (wl s.x)) (p : Option Addr) (H : Option OV) (Fh : Nat → Prop) (hH : HrAt Fh w (.pointer p) H) (hT : Tb w) : Ok Tryz.prog 27 #[v0, .int .i64 n, .agg (encSV s).toArray, .pointer p] w fun v w' => (∃ a c, v = .agg (encSV ⟨a, c, effW (fun y => closH H (memW y 64)) m n s.x⟩).toArray ∧ Sl encU 1 (Fsh w w') w' a c (wl (effW (fun y => closH H (memW y 64)) m n s.x))) ∧ Ext False w w' := by
  obtain ⟨pb, b, rfl, hb, rfl⟩ := hb0
  replace hs := hs.mono (F' := fun g => Gs g ∧ g < w.heap.size) (fun g h1 h2 => ⟨h2, h1⟩)
  replace hH := hH.mono (F' := fun g => Fh g ∧ g < w.heap.size) (fun g h1 h2 => ⟨h2, h1⟩)
  have hTl := hT.lt
  refine Ok_of_W 26 Tryz.func27 rfl rfl rfl ?_
  have hX : Ext False w w := Bel.refl _ _
  refine W_seq (W_region ?_)
  refine Rg_newB rfl (o_box (v := .agg _) rfl) ?_
  intro b6 w1 x2 hge6 hb6
  have hlt6 := hb6.lt
  change Box _ _ _ (encSV _) at hb6
  have z3 := Bel.size x2
  replace hX := Bel.ex hX x2
  replace hb := hb.ext x2
  replace hs := hs.ext x2
  replace hH := hH.ext x2
  replace hT := hT.ext x2
  refine Rg_newB rfl (o_alloc Tryz.zeroValue36) ?_
  intro b8 w4 x5 hge8 hb8
  have hlt8 := hb8.lt
  change Box _ _ _ ([.slice _ _ _]) at hb8
  have z6 := Bel.size x5
  replace hX := Bel.ex hX x5
  replace hb := hb.ext x5
  replace hs := hs.ext x5
  replace hH := hH.ext x5
  replace hT := hT.ext x5
  replace hb6 := hb6.ext x5
  refine Rg_nil (W_seq (W_region ?_))
  refine Rg_run rfl (o_moveh (v := .pointer _) rfl) ?_
  refine Rg_run rfl (o_moveh (v := .int _ _) rfl) ?_
  refine Rg_enter rfl (o_call2 Tryz.call75 rfl rfl) (Ok.mono (sget_ok pb b _ _ hb hm n hn) ?_)
  rintro _ w7 ⟨⟨s14, rfl, hs14, hg14, hz14⟩, x8⟩
  have z9 := Bel.size x8
  replace hX := Bel.ex hX x8
  replace hs := hs.ext x8
  replace hH := hH.ext x8
  replace hT := hT.ext x8
  replace hb6 := hb6.ext x8
  replace hb8 := hb8.ext x8
  refine Rg_run rfl (o_moveh (v := .tuple _) rfl) ?_
  refine Rg_run rfl (o_extract rfl rfl) ?_
  refine Rg_run rfl (o_extract rfl rfl) ?_
  refine Rg_alst rfl rfl Tryz.zeroValue38 rfl Tryz.sizeOf38 (fun _ => rfl) rfl rfl ?_
  intro b9 w10 x11 hge9 hb9
  have hlt9 := hb9.lt
  change Box _ _ _ (encSe _) at hb9
  have z12 := Bel.size x11
  replace hX := Bel.ex hX x11
  replace hs := hs.ext x11
  replace hH := hH.ext x11
  replace hT := hT.ext x11
  replace hb6 := hb6.ext x11
  replace hb8 := hb8.ext x11
  replace hs14 := hs14.ext x11
  refine Rg_run rfl (o_assignh (v := .bool _) rfl) ?_
  refine Rg_nil (W_seq (W_seq (W_region ?_)))
  refine Rg_run rfl (o_moveh (v := .bool _) rfl) ?_
  refine Rg_run rfl (o_not rfl) ?_
  refine Rg_nil ?_
  refine W_cond rfl (fun hc1 => ?_) (fun hc1 => ?_)
  · skip
    have hf : ¬ 0 ≤ fnd b.m n := by simpa using hc1
    refine W_seq (W_region ?_)
    refine Rg_run rfl (o_build (cells := encSV ⟨none, 0, 0⟩) (vs := []) rfl (by kernel_rfl)) ?_
    refine Rg_storeW (v := .agg _) rfl Tryz.sizeOf36 rfl rfl hb8 rfl rfl rfl ?_
    intro w13 c14 hb8
    change Box _ _ _ (encSV _) at hb8
    have z15 := Bel.size c14
    replace hX := Bel.out hX c14 (fun g h1 h2 => by first | exact h2 | omega)
    refine Rg_nil (W_ret ?_)
    refine ⟨_, res_1 (v := .agg _) rfl (rv_cellS Tryz.isAgg36 Tryz.sizeOf36 rfl hb8.at rfl), ?_⟩
    have e : effW (fun y => closH H (memW y 64)) b.m n s.x = 0 := by rw [effW, if_neg hf]
    rw [e]
    exact ⟨⟨_, _, rfl, Sl.none⟩, hX⟩
  have hf : 0 ≤ fnd b.m n := by simpa using hc1
  refine W_skip (W_seq (W_region ?_))
  refine Rg_run rfl (o_moveh (v := .pointer _) rfl) ?_
  refine Rg_run rfl (o_fa Tryz.underlying38 rfl Tryz.sizeOf36 rfl) ?_
  refine Rg_run rfl (o_loadS Tryz.isAgg36 Tryz.sizeOf36 rfl (hb9.at.sub 2 1) rfl) ?_
  refine Rg_run rfl (o_loadS Tryz.isAgg36 Tryz.sizeOf36 rfl hb6.at rfl) ?_
  refine Rg_enter rfl (o_call2 Tryz.call76 rfl rfl) (Ok.mono (band_ok _ ⟨s14.a, s14.c, s14.x⟩ _ hs14 s _ hs) ?_)
  rintro _ w16 ⟨a24, c24, rfl, hq24, x17⟩
  have z18 := Bel.size x17
  replace hX := Bel.ex hX x17
  replace hH := hH.ext x17
  replace hT := hT.ext x17
  replace hb8 := hb8.ext x17
  refine Rg_enter rfl (o_call2 Tryz.call26 rfl rfl) (Ok.mono (hclos_ok p H _ ⟨a24, c24, s14.x &&& s.x⟩ _ _ hH hq24 hT) ?_)
  rintro _ w19 ⟨a25, c25, rfl, hq25, x20⟩
  have z21 := Bel.size x20
  replace hX := Bel.ex hX x20
  replace hb8 := hb8.ext x20
  refine Rg_storeW (v := .agg _) rfl Tryz.sizeOf36 rfl rfl hb8 rfl rfl rfl ?_
  intro w22 c23 hb8
  change Box _ _ _ (encSV _) at hb8
  have z24 := Bel.size c23
  replace hX := Bel.out hX c23 (fun g h1 h2 => by first | exact h2 | omega)
  replace hq25 := hq25.keep c23 (fun g h1 h2 h3 => by omega)
  refine Rg_nil (W_ret ?_)
  refine ⟨_, res_1 (v := .agg _) rfl (rv_cellS Tryz.isAgg36 Tryz.sizeOf36 rfl hb8.at rfl), ?_⟩
  have e : effW (fun y => closH H (memW y 64)) b.m n s.x = closH H (memW (s14.x &&& s.x) 64) := by rw [effW, if_pos hf, ← hg14 hf]; rfl
  rw [e]
  exact ⟨⟨_, _, rfl, hq25.mono (fun g h1 h2 => ⟨by omega, h1⟩)⟩, hX⟩

theorem snew_ok (w : World) : Ok Tryz.prog 30 #[] w fun v w' => BkIs w' v [] ∧ Ext False w w' := by
  refine Ok_of_W 3 Tryz.func30 rfl rfl rfl ?_
  have hX : Ext False w w := Bel.refl _ _
  refine W_seq (W_region ?_)
  refine Rg_run rfl o_assignc ?_
  refine Rg_nil (W_seq (W_region ?_))
  refine Rg_run rfl (o_build (cells := [.slice none 0 0]) (vs := []) rfl (by kernel_rfl)) ?_
  refine Rg_newB rfl (o_box (v := .agg _) rfl) ?_
  intro b2 w1 x2 hge2 hb2
  have hlt2 := hb2.lt
  have z3 := Bel.size x2
  replace hX := Bel.ex hX x2
  refine Rg_run rfl (o_assignh (v := .pointer _) rfl) ?_
  refine Rg_nil (W_ret ?_)
  refine ⟨_, res_tmp rfl rfl, ?_⟩
  change Box _ _ _ [.slice none 0 0] at hb2
  exact ⟨bk_new (l := []) (e := 38) (D := fun _ => True) (F := fun _ => True) hb2 rfl (Own.nil _ _) SesAt.nil rfl, hX⟩

theorem sopenC_ok (v0 : Value) (m : List RS) (w : World) (h : BkIs w v0 m) (hm : OkM m) (u : Int) {m' : List RS} {k : Int} (he : openR m u = (m', k, 0)) : Ok Tryz.prog 11 #[v0, .int .i64 u] w fun v w' => (∃ p, v = .tuple #[p, .int .i64 k, .int .i64 0] ∧ BkIs w' p m') ∧ Ext False w w' := by
  refine (sopen_ok v0 m w h hm u).mono ?_
  rintro _ w' ⟨⟨p, rfl, hp⟩, x⟩
  rw [he] at hp ⊢
  exact ⟨⟨p, rfl, hp.1 rfl⟩, x⟩
theorem scloseC_ok (v0 : Value) (m : List RS) (w : World) (h : BkIs w v0 m) (hm : OkM m) (n : Int) (hn : -1000 ≤ n ∧ n ≤ 1000) {m' : List RS} (he : closeR m n = (m', 0)) : Ok Tryz.prog 13 #[v0, .int .i64 n] w fun v w' => (∃ p, v = .tuple #[p, .int .i64 0] ∧ BkIs w' p m') ∧ Ext False w w' := by
  refine (sclose_ok v0 m w h hm n hn).mono ?_
  rintro _ w' ⟨⟨p, rfl, hp⟩, x⟩
  rw [he] at hp ⊢
  exact ⟨⟨p, rfl, hp.1 rfl⟩, x⟩
theorem sactC_ok (v0 : Value) (m : List RS) (w : World) (h : BkIs w v0 m) (hm : OkM m) (n r : Int) (hn : -1000 ≤ n ∧ n ≤ 1000) (hr : I64 r) {m' : List RS} (he : setR m n r true = (m', 0)) : Ok Tryz.prog 14 #[v0, .int .i64 n, .int .i64 r] w fun v w' => (∃ p, v = .tuple #[p, .int .i64 0] ∧ BkIs w' p m') ∧ Ext False w w' := by
  refine (sact_ok v0 m w h hm n r hn hr).mono ?_
  rintro _ w' ⟨⟨p, rfl, hp⟩, x⟩
  rw [he] at hp ⊢
  exact ⟨⟨p, rfl, hp.1 rfl⟩, x⟩
end Go.Proofs.YtncmjgmlnnenhaaGreatDoor
