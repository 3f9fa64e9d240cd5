/- Walks, printed by program: each theorem says what a function of the translation returns. -/
import Derived.Test.YtncmjgmlnnenhaaGreatDoorWref13
import Derived.Test.YtncmjgmlnnenhaaGreatDoorWlaw11a
namespace Go.Proofs.YtncmjgmlnnenhaaGreatDoor
open Go Go.Lx Go.RowKit
set_option maxRecDepth 100000
set_option linter.unusedVariables false
set_option linter.unusedSimpArgs false
set_option linter.unnecessarySimpa false
theorem lrole_ok (w : World) (n : UInt8) : Ok Tryz.prog 63 #[.int .u8 (n.toNat : Int)] w fun v w' => v = .int .i64 (roleN n) ∧ Ext False w w' := by
  have hn := n.toNat_lt
  refine Ok_of_W 14 Tryz.func63 rfl rfl rfl ?_
  have hX : Ext False w w := Bel.refl _ _
  refine W_seq (W_region ?_)
  refine Rg_run rfl o_assignc ?_
  refine Rg_nil (W_seq (W_seq (W_region ?_)))
  refine Rg_run rfl (o_moveh (v := .int _ _) rfl) ?_
  refine Rg_run rfl (o_geq rfl rfl) ?_
  refine Rg_nil ?_
  refine W_cond rfl (fun hc1 => ?_) (fun hc1 => ?_)
  · skip
    have h25 : 250 ≤ n.toNat := by have := of_decide_eq_true hc1; omega
    refine W_seq (W_region ?_)
    refine Rg_bs (vs := [.int _ _, .int _ _, .int _ _, .int _ _, .int _ _, .int _ _]) (roleL) rfl encJ_ok el_int rfl rfl ⟨rfl, ⟨rfl, ⟨rfl, ⟨rfl, ⟨rfl, ⟨rfl, trivial⟩⟩⟩⟩⟩⟩ rfl rfl rfl rfl ?_
    intro a5 w1 x2 hown5
    replace hX := Bel.ex hX x2
    refine Rg_run rfl (o_moveh (v := .int _ _) rfl) ?_
    refine Rg_run rfl (o_subU8 (a := n.toNat) (b := 250) rfl rfl (by omega)) ?_
    refine Rg_run rfl (o_iaO (i := n.toNat - 250) Tryz.underlying109 Tryz.sizeOf3 hown5 rfl rfl (show _ < 6 by omega)) ?_
    refine Rg_run rfl (o_ldR Tryz.isAgg3 (hown5.slA encJ_ok) rfl rfl (getE 0 (show _ < 6 by omega)) rfl) ?_
    refine Rg_run rfl (o_assignh (v := .int _ _) rfl) ?_
    refine Rg_nil (W_ret ?_)
    refine ⟨_, res_tmp rfl rfl, ?_⟩
    refine ⟨congrArg (Value.int .i64) ?_, hX⟩
    all_goals (rw [roleN, if_pos h25])
  have h25 : ¬ 250 ≤ n.toNat := by have := of_decide_eq_false hc1; omega
  refine W_skip (W_seq (W_region ?_))
  refine Rg_run rfl (o_moveh (v := .int _ _) rfl) ?_
  refine Rg_run rfl (o_remU (a := n.toNat) (b := 6) rfl rfl (by decide)) ?_
  refine Rg_run rfl (o_convS Tryz.underlying5 Tryz.underlying3 rfl (wrap_in (by unfold I64; omega))) ?_
  refine Rg_run rfl (o_add rfl rfl (by unfold I64; omega)) ?_
  refine Rg_run rfl (o_assignh (v := .int _ _) rfl) ?_
  refine Rg_nil (W_ret ?_)
  refine ⟨_, res_tmp rfl rfl, ?_⟩
  refine ⟨congrArg (Value.int .i64) ?_, hX⟩
  all_goals (rw [roleN, if_neg h25])

theorem lentry_ok (e : Ent) (w : World) : Ok Tryz.prog 154 #[.agg (encE e).toArray] w fun v w' => v = .agg (encE e).toArray ∧ Ext False w w' := by
  refine Ok_of_W 8 Tryz.func154 rfl rfl rfl ?_
  have hX : Ext False w w := Bel.refl _ _
  refine W_seq (W_region ?_)
  refine Rg_newB rfl (o_box (v := .agg _) rfl) ?_
  intro b1 w1 x2 hge1 hb1
  have hlt1 := hb1.lt
  change Box _ _ _ (encE _) at hb1
  have z3 := Bel.size x2
  replace hX := Bel.ex hX x2
  refine Rg_newB rfl (o_alloc Tryz.zeroValue131) ?_
  intro b2 w4 x5 hge2 hb2
  have hlt2 := hb2.lt
  change Box _ _ _ ([.int _ _, str _, str _, .bool _]) at hb2
  have z6 := Bel.size x5
  replace hX := Bel.ex hX x5
  replace hb1 := hb1.ext x5
  refine Rg_nil (W_seq (W_region ?_))
  refine Rg_run rfl (o_fa Tryz.underlying120 rfl Tryz.sizeOf3 rfl) ?_
  refine Rg_run rfl (o_load1 Tryz.isAgg3 rfl (hb1.at.get 0 rfl)) ?_
  refine Rg_run rfl (o_fa Tryz.underlying120 rfl Tryz.sizeOf111 rfl) ?_
  refine Rg_run rfl (o_loadS Tryz.isAgg111 Tryz.sizeOf111 rfl (hb1.at.sub 1 3) rfl) ?_
  refine Rg_run rfl (o_build (cells := encE e) (vs := [(0, .int _ _), (1, .agg _)]) rfl (by kernel_rfl)) ?_
  refine Rg_storeW (v := .agg _) rfl Tryz.sizeOf131 rfl rfl hb2 rfl rfl rfl ?_
  intro w7 c8 hb2
  change Box _ _ _ (encE _) at hb2
  have z9 := Bel.size c8
  replace hX := Bel.out hX c8 (fun g h1 h2 => by first | exact h2 | omega)
  refine Rg_nil (W_ret ?_)
  refine ⟨_, res_1 (v := .agg _) rfl (rv_cellS Tryz.isAgg131 Tryz.sizeOf131 rfl hb2.at rfl), ?_⟩
  exact ⟨rfl, hX⟩

theorem lsame13_ok (a b : Option Addr) (c d : Nat) (A C : Nat → Prop) (x y : List Ent) (w : World) (hx : Sl encE 4 A w a c x) (hy : Sl encE 4 C w b d y) : Ok Tryz.prog 119 #[.slice a x.length c, .slice b y.length d] w fun v w' => v = .bool (x == y) ∧ Ext False w w' := by
  have hlx := hx.len; have hly := hy.len
  replace hx := hx.mono (F' := fun g => g < w.heap.size) (fun g h1 h2 => h1)
  replace hy := hy.mono (F' := fun g => g < w.heap.size) (fun g h1 h2 => h1)
  refine Ok_of_W 27 Tryz.func119 rfl rfl rfl ?_
  have hX : Ext False w w := Bel.refl _ _
  refine W_seq (W_region ?_)
  refine Rg_run rfl o_assignc ?_
  refine Rg_nil (W_seq (W_seq (W_region ?_)))
  refine Rg_run rfl (o_moveh (v := .slice _ _ _) rfl) ?_
  refine Rg_run rfl (o_llen Tryz.underlying128 rfl) ?_
  refine Rg_run rfl (o_moveh (v := .slice _ _ _) rfl) ?_
  refine Rg_run rfl (o_llen Tryz.underlying62 rfl) ?_
  refine Rg_run rfl (o_neq rfl rfl) ?_
  refine Rg_nil ?_
  refine W_cond rfl (fun hc1 => ?_) (fun hc1 => ?_)
  · skip
    skip
    refine W_seq (W_region ?_)
    refine Rg_run rfl o_assignc ?_
    refine Rg_nil (W_ret ?_)
    refine ⟨_, res_tmp rfl rfl, ?_⟩
    refine ⟨congrArg Value.bool ?_, hX⟩
    all_goals (exact (eqT_len (by simpa using hc1)).symm)
  have hle : (x.length : Int) = y.length := by simpa using hc1
  refine W_skip (W_seq (W_seq (W_region ?_)))
  refine Rg_run rfl (o_moveh (v := .slice _ _ _) rfl) ?_
  refine Rg_run rfl (o_llen Tryz.underlying62 rfl) ?_
  refine Rg_run rfl o_movec ?_
  refine Rg_nil (W_block ?_)
  refine W_for (α := Nat) [(4, 6), (14, 26)] (fun k => [(14, .int .i64 (k : Int))]) (fun k w' => (k ≤ y.length ∧ x.take k = y.take k) ∧ Ext False w w') (fun k => y.length - k) 0 ⟨rfl, trivial⟩ ⟨⟨by omega, by simp⟩, Bel.refl _ _⟩ ?_
  rintro k fb3 w2 ⟨⟨hk, hall⟩, hXL1⟩
  have z4 := Bel.size hXL1
  replace hX := Bel.ex hX hXL1
  replace hx := hx.ext hXL1
  replace hy := hy.ext hXL1
  refine W_seq (W_region ?_)
  refine Rg_run rfl (o_lss rfl rfl) ?_
  refine Rg_nil (W_seq ?_)
  refine W_cond rfl (fun hc2 => ?_) (fun hc2 => ?_)
  · skip
    replace hc2 := of_decide_eq_true hc2
    refine W_skip (W_seq (W_block (W_seq (W_region ?_))))
    refine Rg_run rfl (o_moveh (v := .int _ _) rfl) ?_
    refine Rg_run rfl (o_iaR Tryz.underlying62 Tryz.sizeOf120 hy rfl rfl (by first | omega | (unfold I64; omega) | (simp; done) | (simp; omega) | (simp at *; omega))) ?_
    refine Rg_run rfl (o_ldRS Tryz.isAgg120 Tryz.sizeOf120 hy rfl (getE ez (by omega))) ?_
    refine Rg_newB rfl (o_alloc Tryz.zeroValue120) ?_
    intro b6 w5 x6 hge6 hb6
    have hlt6 := hb6.lt
    change Box _ _ _ ([.int _ _, str _, str _, .bool _]) at hb6
    have z7 := Bel.size x6
    replace hX := Bel.ex hX x6
    replace hXL1 := Bel.ex hXL1 x6
    replace hx := hx.ext x6
    replace hy := hy.ext x6
    refine Rg_run rfl (o_assignh (v := .int _ _) rfl) ?_
    refine Rg_storeW (v := .agg _) rfl Tryz.sizeOf120 rfl rfl hb6 rfl rfl rfl ?_
    intro w8 c9 hb6
    change Box _ _ _ (encE _) at hb6
    have z10 := Bel.size c9
    replace hX := Bel.out hX c9 (fun g h1 h2 => by first | exact h2 | omega)
    replace hXL1 := Bel.out hXL1 c9 (fun g h1 h2 => by first | exact h2 | omega)
    replace hx := hx.keep c9 (fun g h1 h2 h3 => by omega)
    replace hy := hy.keep c9 (fun g h1 h2 h3 => by omega)
    refine Rg_nil (W_seq ?_)
    apply W_draw (β := False) [peq _, peq _, peq _, peq _, peq _, peq _, peq _] 7 mixed (by kernel_rfl) rfl ⟨peq_stable _, peq_stable _, peq_stable _, peq_stable _, peq_stable _, peq_stable _, peq_stable _, trivial⟩ ?ob6 ?fin6
    case ob6 =>
      refine OblL_cons (fun w11 x12 => ?_) ?_
      · skip
        have z13 := Bel.size x12
        refine bindP_nil ?_
        exact OpS_v rfl (o_moveh (v := .slice _ _ _) rfl)
      refine OblL_cons (fun w14 x15 => ?_) ?_
      · skip
        have z16 := Bel.size x15
        refine bindP_nil ?_
        exact OpS_v rfl (o_moveh (v := .int _ _) rfl)
      refine OblL_cons (fun w17 x18 => ?_) ?_
      · skip
        have z19 := Bel.size x18
        have hx := hx.ext x18
        refine bindP_eq (bindP_eq (bindP_nil ?_))
        exact OpS_v rfl (o_iaR Tryz.underlying128 Tryz.sizeOf131 hx rfl rfl (by first | omega | (unfold I64; omega) | (simp; done) | (simp; omega) | (simp at *; omega)))
      refine OblL_cons (fun w20 x21 => ?_) ?_
      · skip
        have z22 := Bel.size x21
        have hx := hx.ext x21
        refine bindP_eq (bindP_nil ?_)
        exact OpS_v rfl (o_ldRS Tryz.isAgg131 Tryz.sizeOf131 hx rfl (getE ez (by omega)))
      refine OblL_cons (fun w23 x24 => ?_) ?_
      · skip
        have z25 := Bel.size x24
        have hb6 := hb6.ext x24
        refine bindP_nil ?_
        exact OpS_v rfl (o_loadS Tryz.isAgg120 Tryz.sizeOf120 rfl hb6.at rfl)
      refine OblL_cons (fun w26 x27 => ?_) ?_
      · skip
        have z28 := Bel.size x27
        refine bindP_eq (bindP_nil ?_)
        exact OpS_call rfl (o_call1 Tryz.call154 rfl) (lentry_ok (y.getD k ez) _)
      refine OblL_cons (fun w29 x30 => ?_) ?_
      · skip
        have z31 := Bel.size x30
        refine bindP_eq (bindP_eq (bindP_nil ?_))
        exact OpS_v rfl (o_tneq eq_ent rfl rfl)
      exact OblL_nil
    case fin6 =>
      intro w32 x33
      have z34 := Bel.size x33
      replace hX := Bel.ex hX x33
      replace hXL1 := Bel.ex hXL1 x33
      replace hx := hx.ext x33
      replace hy := hy.ext x33
      replace hb6 := hb6.ext x33
      refine bindP_eq (bindP_eq (bindP_eq (bindP_eq (bindP_eq (bindP_eq (bindP_eq (bindP_nil (Rg_nil ?_))))))))
      refine W_cond rfl (fun hc3 => ?_) (fun hc3 => ?_)
      · skip
        refine W_seq (W_region ?_)
        refine Rg_run rfl o_assignc ?_
        refine Rg_nil (W_ret ?_)
        refine ⟨_, res_tmp rfl rfl, ?_⟩
        refine ⟨congrArg Value.bool ?_, hX⟩
        all_goals (exact (eqT_ne (z := ez) (k := k) (by simpa using hc3)).symm)
      refine W_skip (W_region ?_)
      refine Rg_run rfl (o_add rfl rfl (by first | omega | (unfold I64; omega) | (simp; done) | (simp; omega) | (simp at *; omega))) ?_
      refine Rg_run rfl (o_moveh (v := .int _ _) rfl) ?_
      refine Rg_nil ?_
      refine ⟨k + 1, ⟨?_, trivial⟩, ?_, ⟨?_, hXL1⟩, ?_⟩
      · first | rfl | (go_num) | (exact congrArg _ (by omega))
      · repeat (first | exact off_refl _ _ | exact off_mix | refine off_put rfl ?_ | refine off_putN ?_ | refine off_setL rfl ?_ | refine off_mix' rfl ?_)
      · exact ⟨by omega, eqT_succ (z := ez) (by omega) (by omega) hall (by simpa using hc3)⟩
      · omega
  replace hc2 := of_decide_eq_false hc2
  refine W_exit (exAt_hit (W_seq (W_region ?_)))
  refine Rg_run rfl o_assignc ?_
  refine Rg_nil (W_ret ?_)
  refine ⟨_, res_tmp rfl rfl, ?_⟩
  refine ⟨congrArg Value.bool ?_, hX⟩
  all_goals (exact (eqT_end (k := k) (by omega) (by omega) hall).symm)

theorem lis13_ok (v0 : Value) (m : List Ent) (w : World) (hb0 : GbIs w v0 m) (hm : OkG m) (v1 : Value) (hs : Rd encE 4 (Lt w.heap.size) w v1 m) : Ok Tryz.prog 68 #[v0, v1] w fun v w' => v = .bool true ∧ Ext False w w' := by
  obtain ⟨a, c, rfl, hs⟩ := hs
  have hml := hm.len
  replace hs := hs.mono (F' := fun g => g < w.heap.size) (fun g h1 h2 => h1)
  refine Ok_of_W 16 Tryz.func68 rfl rfl rfl ?_
  have hX : Ext False w w := Bel.refl _ _
  refine W_seq (W_region ?_)
  refine Rg_run rfl o_assignc ?_
  refine Rg_nil (W_seq (W_region ?_))
  refine Rg_run rfl (o_moveh (v := v0) rfl) ?_
  refine Rg_enter rfl (o_call1 Tryz.call118 rfl) (Ok.mono (glen_ok _ _ _ hb0 hm) ?_)
  rintro _ w1 ⟨rfl, x2⟩
  have z3 := Bel.size x2
  replace hX := Bel.ex hX x2
  replace hb0 := hb0.ext x2
  replace hs := hs.ext x2
  refine Rg_run rfl (o_moveh (v := .slice _ _ _) rfl) ?_
  refine Rg_run rfl (o_llen Tryz.underlying62 rfl) ?_
  refine Rg_run rfl (o_eql rfl rfl) ?_
  refine Rg_run rfl (o_moveh (v := .bool _) rfl) ?_
  refine Rg_on 5 10 rfl (congrArg Value.bool (by simp)) ?_
  refine Rg_run rfl (o_moveh (v := v0) rfl) ?_
  refine Rg_on 5 10 rfl (congrArg Value.bool (by simp)) ?_
  refine Rg_enter rfl (o_call1 Tryz.call70 rfl) (Ok.mono (gents_ok _ _ _ hb0 hm) ?_)
  rintro v12 w4 ⟨hown12, x5⟩
  have z6 := Bel.size x5
  replace hX := Bel.ex hX x5
  replace hb0 := hb0.ext x5
  replace hs := hs.ext x5
  replace hown12 := hown12.mono (D' := fun g => w.heap.size ≤ g) (fun g h1 h2 => by omega)
  obtain ⟨a12, c12, hv12, hs12⟩ := hown12.sl encE_ok
  subst hv12
  refine Rg_on 5 10 rfl (congrArg Value.bool (by simp)) ?_
  refine Rg_run rfl (o_moveh (v := .slice _ _ _) rfl) ?_
  refine Rg_on 5 10 rfl (congrArg Value.bool (by simp)) ?_
  refine Rg_enter rfl (o_call2 Tryz.call119 rfl rfl) (Ok.mono (lsame13_ok _ _ _ _ _ _ _ _ _ hs12 hs) ?_)
  rintro _ w7 ⟨rfl, x8⟩
  have z9 := Bel.size x8
  replace hX := Bel.ex hX x8
  replace hs := hs.ext x8
  replace hs12 := hs12.ext x8
  refine Rg_run rfl (o_pickT (v := .bool _) (congrArg Value.bool (by simp)) rfl) ?_
  refine Rg_run rfl (o_assignh (v := .bool _) rfl) ?_
  refine Rg_nil (W_ret ?_)
  refine ⟨_, res_tmp rfl rfl, ?_⟩
  refine ⟨congrArg Value.bool ?_, hX⟩
  all_goals (simp)

theorem lplay13_ok (w : World) (vl : Value) (l : List GOp) (hl : Rd encGo 5 (Lt w.heap.size) w vl l) (dl : ∀ z ∈ l, Sl encB 1 (Lt w.heap.size) w z.p.a z.p.c z.p.names) : Ok Tryz.prog 22 #[vl] w fun v w' => (∃ p q m, v = .tuple #[.pointer (some ⟨p, 0, none⟩), q] ∧ OkG m ∧ GbF (Lt w'.heap.size) w' (.pointer (some ⟨p, 0, none⟩)) m ∧ Rd encE 4 (Lt w'.heap.size) w' q m) ∧ Ext False w w' := by
  obtain ⟨al, cl, rfl, hl⟩ := hl; have ml := hl.len
  refine Ok_of_W 102 Tryz.func22 rfl rfl rfl ?_
  have hX : Ext False w w := Bel.refl _ _
  refine W_seq (W_region ?_)
  refine Rg_run rfl o_assignc ?_
  refine Rg_run rfl o_assignc ?_
  refine Rg_nil (W_seq (W_region ?_))
  refine Rg_enter rfl (o_call0 Tryz.call29) (Ok.mono (gnew_ok _) ?_)
  rintro _ w1 ⟨p14, rfl, hbk14, x2⟩
  have z3 := Bel.size x2
  replace hX := Bel.ex hX x2
  replace dl := (fun z hz => (dl z hz).ext x2)
  replace hl := hl.ext x2
  refine Rg_run rfl (o_assignh (v := .pointer _) rfl) ?_
  refine Rg_nil (W_seq (W_region ?_))
  refine Rg_run rfl o_assignc ?_
  refine Rg_nil (W_seq (W_seq (W_region ?_)))
  refine Rg_run rfl o_assignc ?_
  refine Rg_nil (W_block ?_)
  refine W_for (α := Nat × List Ent × Nat × Value) [(2, 13), (15, 99)] (fun q => [(6, .int .i64 (q.1 : Int)), (4, .pointer (some ⟨q.2.2.1, 0, none⟩)), (5, q.2.2.2)]) (fun q w' => (OkG q.2.1) ∧ Ext False w1 w' ∧ (GbIs w' (.pointer (some ⟨q.2.2.1, 0, none⟩)) q.2.1 ∧ Rd encE 4 (Lt w'.heap.size) w' q.2.2.2 q.2.1)) (fun q => 14 - q.1) (0, [], p14, .slice none 0 0) ⟨rfl, rfl, rfl, trivial⟩ ⟨OkG.nil, Bel.refl _ _, ⟨hbk14, Rd.none⟩⟩ ?_
  rintro ⟨k, m, pb, vm⟩ fb6 w5 ⟨hm, hXL4, ⟨hbk, hrq⟩⟩
  dsimp only at *
  have z7 := Bel.size hXL4
  replace hX := Bel.ex hX hXL4
  replace dl := (fun z hz => (dl z hz).ext hXL4)
  replace hl := hl.ext hXL4
  obtain ⟨n0, hn0⟩ : ∃ n, n = w5.heap.size := ⟨_, rfl⟩
  replace hbk : GbF (fun g => g < n0) _ _ _ := hbk.f.mono (fun g h1 h2 => by omega)
  replace hrq := hrq.mono (F' := fun g => g < n0) (fun g h1 h2 => by omega)
  refine W_seq (W_seq (W_region ?_))
  refine Rg_run rfl (o_moveh (v := .int _ _) rfl) ?_
  refine Rg_run rfl (o_moveh (v := .slice _ _ _) rfl) ?_
  refine Rg_run rfl (o_llen Tryz.underlying59 rfl) ?_
  refine Rg_run rfl (o_lss rfl rfl) ?_
  refine Rg_run rfl (o_moveh (v := .bool _) rfl) ?_
  refine Rg_may 4 19 rfl rfl rfl (fun hg => (o_moveh (v := .int _ _) rfl)) ?_
  refine Rg_may 4 19 rfl rfl rfl (fun hg => (o_lss (gsel (u := undef) hg) rfl)) ?_
  refine Rg_run rfl (o_and (u := undef) rfl rfl) ?_
  refine Rg_run rfl (o_moveh (v := .bool _) rfl) ?_
  refine Rg_may 8 23 rfl rfl rfl (fun hg => (o_moveh (v := .pointer _) rfl)) ?_
  refine Rg_may 8 23 rfl rfl rfl (fun hg => (o_pne Tryz.underlying61 (gsel (u := undef) hg) rfl)) ?_
  refine Rg_run rfl (o_and (u := undef) rfl rfl) ?_
  refine Rg_nil ?_
  refine W_cond rfl (fun hc1 => ?_) (fun hc1 => ?_)
  · skip
    have hkl : k < l.length := by rw [Bool.and_eq_true, Bool.and_eq_true] at hc1; have := of_decide_eq_true hc1.1.1; omega
    have hk14 : k < 14 := by rw [Bool.and_eq_true, Bool.and_eq_true] at hc1; have := of_decide_eq_true hc1.1.2; omega
    refine W_skip (W_seq (W_block (W_seq (W_region ?_))))
    refine Rg_run rfl (o_moveh (v := .slice _ _ _) rfl) ?_
    refine Rg_run rfl (o_moveh (v := .int _ _) rfl) ?_
    refine Rg_run rfl (o_iaR Tryz.underlying59 Tryz.sizeOf117 hl rfl rfl (by first | omega | (unfold I64; omega) | (simp; done) | (simp; omega) | (simp at *; omega))) ?_
    refine Rg_run rfl (o_faE Tryz.underlying117 rfl Tryz.sizeOf115 hl rfl (getE goz hkl)) ?_
    refine Rg_run rfl (o_ldES (j := 2) Tryz.isAgg115 Tryz.sizeOf115 hl rfl (getE goz hkl) rfl rfl) ?_
    refine Rg_enter rfl (o_call1 Tryz.call62 rfl) (Ok.mono (make_ok _ (l.getD k goz).p (dl _ (getD_mem hkl)).top) ?_)
    rintro _ w8 ⟨rfl, x9⟩
    have z10 := Bel.size x9
    replace hX := Bel.ex hX x9
    replace hXL4 := Bel.ex hXL4 x9
    replace dl := (fun z hz => (dl z hz).ext x9)
    replace hl := hl.ext x9
    replace hbk := hbk.ext x9
    replace hrq := hrq.ext x9
    refine Rg_run rfl (o_moveh (v := .tuple _) rfl) ?_
    refine Rg_run rfl (o_extract rfl rfl) ?_
    refine Rg_run rfl (o_extract rfl rfl) ?_
    refine Rg_newB rfl (o_alloc Tryz.zeroValue75) ?_
    intro b7 w11 x12 hge7 hb7
    have hlt7 := hb7.lt
    change Box _ _ _ ([str _, str _, .bool _]) at hb7
    have z13 := Bel.size x12
    replace hX := Bel.ex hX x12
    replace hXL4 := Bel.ex hXL4 x12
    replace dl := (fun z hz => (dl z hz).ext x12)
    replace hl := hl.ext x12
    replace hbk := hbk.ext x12
    replace hrq := hrq.ext x12
    refine Rg_newB rfl (o_alloc Tryz.zeroValue111) ?_
    intro b8 w14 x15 hge8 hb8
    have hlt8 := hb8.lt
    change Box _ _ _ ([str _, str _, .bool _]) at hb8
    have z16 := Bel.size x15
    replace hX := Bel.ex hX x15
    replace hXL4 := Bel.ex hXL4 x15
    replace dl := (fun z hz => (dl z hz).ext x15)
    replace hl := hl.ext x15
    replace hbk := hbk.ext x15
    replace hrq := hrq.ext x15
    replace hb7 := hb7.ext x15
    refine Rg_storeW (v := .agg _) rfl Tryz.sizeOf75 rfl rfl hb7 rfl rfl rfl ?_
    intro w17 c18 hb7
    change Box _ _ _ (encP _) at hb7
    have z19 := Bel.size c18
    replace hX := Bel.out hX c18 (fun g h1 h2 => by first | exact h2 | omega)
    replace hXL4 := Bel.out hXL4 c18 (fun g h1 h2 => by first | exact h2 | omega)
    replace dl := fun z hz => (dl z hz).keep c18 (fun g h1 h2 h3 => by omega)
    replace hl := hl.keep c18 (fun g h1 h2 h3 => by omega)
    replace hbk := hbk.keep c18 (fun h => by omega)
    replace hrq := hrq.keep c18 (fun g h1 h2 h3 => by omega)
    replace hb8 := hb8.keep c18 (fun h => by omega)
    refine Rg_storeW (v := .agg _) rfl Tryz.sizeOf111 rfl rfl hb8 rfl rfl rfl ?_
    intro w20 c21 hb8
    change Box _ _ _ (encP _) at hb8
    have z22 := Bel.size c21
    replace hX := Bel.out hX c21 (fun g h1 h2 => by first | exact h2 | omega)
    replace hXL4 := Bel.out hXL4 c21 (fun g h1 h2 => by first | exact h2 | omega)
    replace dl := fun z hz => (dl z hz).keep c21 (fun g h1 h2 h3 => by omega)
    replace hl := hl.keep c21 (fun g h1 h2 h3 => by omega)
    replace hbk := hbk.keep c21 (fun h => by omega)
    replace hrq := hrq.keep c21 (fun g h1 h2 h3 => by omega)
    replace hb7 := hb7.keep c21 (fun h => by omega)
    refine Rg_nil (W_seq ?_)
    apply W_drawC (β := False) (fun _ => 0) [peqC _, peqC _, peqC _, peqC _, peqC _, peqC _, peqC _, peqC _, (postBox w20 120 [.int .i64 0, str [], str [], .bool false])] [0, 0, 0, 0, 0, 0, 0, 0, 0] 9 mixed (by kernel_rfl) (by kernel_rfl) rfl ⟨peqC_stable _ _, peqC_stable _ _, peqC_stable _ _, peqC_stable _ _, peqC_stable _ _, peqC_stable _ _, peqC_stable _ _, peqC_stable _ _, (postBox_stable), trivial⟩ ?ob7 ?fin7
    case ob7 =>
      refine OblC_cons (fun w23 c25 x24 hc026 hk27 => ?_) ?_
      · skip
        replace x24 := RelG.ext0 x24
        have z28 := Bel.size x24
        have dl := (fun z hz => (dl z hz).ext x24)
        refine bindC_nil ?_
        exact OpC_v rfl (o_moveh (v := .slice _ _ _) rfl)
      refine OblC_cons (fun w29 c31 x30 hc032 hk33 => ?_) ?_
      · skip
        replace x30 := RelG.ext0 x30
        have z34 := Bel.size x30
        have dl := (fun z hz => (dl z hz).ext x30)
        refine bindC_nil ?_
        exact OpC_v rfl (o_moveh (v := .int _ _) rfl)
      refine OblC_cons (fun w35 c37 x36 hc038 hk39 => ?_) ?_
      · skip
        replace x36 := RelG.ext0 x36
        have z40 := Bel.size x36
        have dl := (fun z hz => (dl z hz).ext x36)
        have hl := hl.ext x36
        refine bindC_eq (bindC_eq (bindC_nil ?_))
        exact OpC_v rfl (o_iaR Tryz.underlying59 Tryz.sizeOf117 hl rfl rfl (by first | omega | (unfold I64; omega) | (simp; done) | (simp; omega) | (simp at *; omega)))
      refine OblC_cons (fun w41 c43 x42 hc044 hk45 => ?_) ?_
      · skip
        replace x42 := RelG.ext0 x42
        have z46 := Bel.size x42
        have dl := (fun z hz => (dl z hz).ext x42)
        have hl := hl.ext x42
        refine bindC_eq (bindC_nil ?_)
        exact OpC_v rfl (o_faE Tryz.underlying117 rfl Tryz.sizeOf5 hl rfl (getE goz hkl))
      refine OblC_cons (fun w47 c49 x48 hc050 hk51 => ?_) ?_
      · skip
        replace x48 := RelG.ext0 x48
        have z52 := Bel.size x48
        have dl := (fun z hz => (dl z hz).ext x48)
        have hl := hl.ext x48
        refine bindC_eq (bindC_nil ?_)
        exact OpC_v rfl (o_ldE (j := 1) Tryz.isAgg5 hl rfl (getE goz hkl) rfl)
      refine OblC_cons (fun w53 c55 x54 hc056 hk57 => ?_) ?_
      · skip
        replace x54 := RelG.ext0 x54
        have z58 := Bel.size x54
        have dl := (fun z hz => (dl z hz).ext x54)
        refine bindC_eq (bindC_nil ?_)
        exact OpC_call rfl (o_call1 Tryz.call63 rfl) (lrole_ok _ (l.getD k goz).rl)
      refine OblC_cons (fun w59 c61 x60 hc062 hk63 => ?_) ?_
      · skip
        replace x60 := RelG.ext0 x60
        have z64 := Bel.size x60
        have dl := (fun z hz => (dl z hz).ext x60)
        have hb8 := hb8.ext x60
        refine bindC_nil ?_
        exact OpC_v rfl (o_loadS Tryz.isAgg111 Tryz.sizeOf111 rfl hb8.at rfl)
      refine OblC_cons (fun w65 c67 x66 hc068 hk69 => ?_) ?_
      · skip
        replace x66 := RelG.ext0 x66
        have z70 := Bel.size x66
        have dl := (fun z hz => (dl z hz).ext x66)
        refine bindC_eq (bindC_eq (bindC_nil ?_))
        exact OpC_v rfl (o_build (cells := encE (l.getD k goz).ent) (vs := [(0, .int _ _), (1, .agg _)]) rfl (by kernel_rfl))
      refine OblC_cons (fun w71 c73 x72 hc074 hk75 => ?_) ?_
      · skip
        replace x72 := RelG.ext0 x72
        have z76 := Bel.size x72
        have dl := (fun z hz => (dl z hz).ext x72)
        refine bindC_nil ?_
        exact OpC_box (Bel.size x72) rfl (o_alloc Tryz.zeroValue120)
      exact OblC_nil
    case fin7 =>
      intro w77 c79 x78 hc080
      replace x78 := RelG.ext0 x78
      have z81 := Bel.size x78
      replace hX := Bel.ex hX x78
      replace hXL4 := Bel.ex hXL4 x78
      replace dl := (fun z hz => (dl z hz).ext x78)
      replace hl := hl.ext x78
      replace hbk := hbk.ext x78
      replace hrq := hrq.ext x78
      replace hb7 := hb7.ext x78
      refine bindC_eq (bindC_eq (bindC_eq (bindC_eq (bindC_eq (bindC_eq (bindC_eq (bindC_eq ?_)))))))
      refine bindC_mem (fun v9 hv9 => ?_)
      refine bindC_nil ?_
      obtain ⟨b9, rfl, hge9, hb9, hcb9⟩ := hv9
      have hlt9 := hb9.lt
      refine Rg_storeW (v := .agg _) rfl Tryz.sizeOf120 rfl rfl hb9 rfl rfl rfl ?_
      intro w82 c83 hb9
      change Box _ _ _ (encE _) at hb9
      have z84 := Bel.size c83
      replace hX := Bel.out hX c83 (fun g h1 h2 => by first | exact h2 | omega)
      replace hXL4 := Bel.out hXL4 c83 (fun g h1 h2 => by first | exact h2 | omega)
      replace dl := fun z hz => (dl z hz).keep c83 (fun g h1 h2 h3 => by omega)
      replace hl := hl.keep c83 (fun g h1 h2 h3 => by omega)
      replace hbk := hbk.keep c83 (fun h => by omega)
      replace hrq := hrq.keep c83 (fun g h1 h2 h3 => by omega)
      replace hb7 := hb7.keep c83 (fun h => by omega)
      refine Rg_nil (W_seq (W_region ?_))
      refine Rg_run rfl o_assignc ?_
      refine Rg_nil (W_seq (W_region ?_))
      refine Rg_run rfl o_assignc ?_
      refine Rg_nil (W_seq (W_region ?_))
      refine Rg_run rfl (o_moveh (v := vm) rfl) ?_
      refine Rg_run rfl (o_assignh (v := vm) rfl) ?_
      refine Rg_run rfl o_assignc ?_
      refine Rg_nil (W_seq (W_seq (W_region ?_)))
      refine Rg_run rfl (o_moveh (v := .slice _ _ _) rfl) ?_
      refine Rg_run rfl (o_moveh (v := .int _ _) rfl) ?_
      refine Rg_run rfl (o_iaR Tryz.underlying59 Tryz.sizeOf117 hl rfl rfl (by first | omega | (unfold I64; omega) | (simp; done) | (simp; omega) | (simp at *; omega))) ?_
      refine Rg_run rfl (o_faE Tryz.underlying117 rfl Tryz.sizeOf4 hl rfl (getE goz hkl)) ?_
      refine Rg_run rfl (o_ldE (j := 0) Tryz.isAgg4 hl rfl (getE goz hkl) rfl) ?_
      refine Rg_nil ?_
      refine W_cond rfl (fun hc2 => ?_) (fun hc2 => ?_)
      · skip
        refine W_seq (W_region ?_)
        refine Rg_run rfl (o_moveh (v := .pointer _) rfl) ?_
        refine Rg_run rfl (o_fa Tryz.underlying120 rfl Tryz.sizeOf3 rfl) ?_
        refine Rg_run rfl (o_load1 Tryz.isAgg3 rfl (hb9.at.get 0 rfl)) ?_
        refine Rg_run rfl (o_loadS Tryz.isAgg75 Tryz.sizeOf75 rfl hb7.at rfl) ?_
        refine Rg_enter rfl (o_call3 Tryz.call64 rfl rfl rfl) (Ok.mono (gdrop_ok _ m _ hbk.is hm (l.getD k goz).ent (l.getD k goz).okp) ?_)
        rintro _ w85 ⟨⟨p57, rfl, hp57⟩, x86⟩
        have z87 := Bel.size x86
        replace hX := Bel.ex hX x86
        replace hXL4 := Bel.ex hXL4 x86
        replace dl := (fun z hz => (dl z hz).ext x86)
        replace hbk := hbk.ext x86
        replace hrq := hrq.ext x86
        replace hb9 := hb9.ext x86
        refine Rg_run rfl (o_moveh (v := .tuple _) rfl) ?_
        refine Rg_run rfl (o_extract rfl rfl) ?_
        refine Rg_run rfl (o_extract rfl rfl) ?_
        refine Rg_run rfl (o_assignh (v := p57) rfl) ?_
        refine Rg_run rfl (o_assignh (v := .int _ _) rfl) ?_
        refine Rg_nil (W_region ?_)
        refine Rg_run rfl (o_moveh (v := vm) rfl) ?_
        refine Rg_run rfl (o_loadS Tryz.isAgg120 Tryz.sizeOf120 rfl hb9.at rfl) ?_
        refine Rg_enter rfl (o_call2 Tryz.call65 rfl rfl) (Ok.mono (r13drop_ok _ _ m _ hrq hm (l.getD k goz).ent) ?_)
        rintro _ w88 ⟨⟨u63, rfl, hr63⟩, x89⟩
        have z90 := Bel.size x89
        replace hX := Bel.ex hX x89
        replace hXL4 := Bel.ex hXL4 x89
        replace dl := (fun z hz => (dl z hz).ext x89)
        replace hbk := hbk.ext x89
        replace hrq := hrq.ext x89
        replace hp57 := hp57.ext x89
        refine Rg_run rfl (o_moveh (v := .tuple _) rfl) ?_
        refine Rg_run rfl (o_extract rfl rfl) ?_
        refine Rg_run rfl (o_extract rfl rfl) ?_
        refine Rg_run rfl (o_assignh (v := u63) rfl) ?_
        refine Rg_run rfl (o_assignh (v := .int _ _) rfl) ?_
        refine Rg_nil (W_seq (W_seq (W_region ?_)))
        refine Rg_run rfl (o_moveh (v := .int _ _) rfl) ?_
        refine Rg_run rfl (o_moveh (v := .int _ _) rfl) ?_
        refine Rg_run rfl (o_neq rfl rfl) ?_
        refine Rg_run rfl (o_moveh (v := .bool _) rfl) ?_
        refine (Decidable.em ((dropR m (l.getD k goz).ent).2 = 0)).elim (fun hf => ?_) (fun hf => ?_)
        · skip
          refine Rg_on 3 83 rfl (congrArg Value.bool (by simp)) ?_
          refine Rg_run rfl (o_moveh (v := p57) rfl) ?_
          have hbk2 : GbIs w88 p57 (dropR m (l.getD k goz).ent).1 := hp57.1 hf
          obtain ⟨pb2, _, _, hpe, _, _⟩ := hp57.1 hf
          subst hpe
          refine Rg_on 3 83 rfl (congrArg Value.bool (by simp)) ?_
          refine Rg_run rfl (o_peq Tryz.underlying61 rfl rfl) ?_
          refine Rg_on 3 83 rfl (congrArg Value.bool (by simp)) ?_
          refine Rg_run rfl (o_moveh (v := .int _ _) rfl) ?_
          refine Rg_on 3 83 rfl (congrArg Value.bool (by simp)) ?_
          refine Rg_run rfl (o_neq rfl rfl) ?_
          refine Rg_on 3 83 rfl (congrArg Value.bool (by simp)) ?_
          refine Rg_run rfl (o_bneq Tryz.underlying4 rfl rfl) ?_
          refine Rg_run rfl (o_pickF (v := .bool _) (congrArg Value.bool (by simp)) rfl) ?_
          refine Rg_nil ?_
          refine W_cond_false (congrArg Value.bool (by have hf9 := hf; generalize (dropR m (l.getD k goz).ent).2 = z at hf9 ⊢; simp [hf9])) ?_
          refine W_skip (W_seq (W_region ?_))
          refine Rg_run rfl (o_moveh (v := .int _ _) rfl) ?_
          refine Rg_run rfl (o_eql rfl rfl) ?_
          refine Rg_nil ?_
          refine W_cond_true (congrArg Value.bool (by have hf9 := hf; generalize (dropR m (l.getD k goz).ent).2 = z at hf9 ⊢; simp [hf9])) ?_
          refine W_seq (W_seq (W_region ?_))
          refine Rg_run rfl (o_moveh (v := .pointer _) rfl) ?_
          refine Rg_run rfl (o_moveh (v := vm) rfl) ?_
          refine Rg_enter rfl (o_call2 Tryz.call68 rfl rfl) (Ok.mono (lis13_ok _ _ _ hbk.is hm _ hrq.top) ?_)
          rintro _ w91 ⟨rfl, x92⟩
          have z93 := Bel.size x92
          replace hX := Bel.ex hX x92
          replace hXL4 := Bel.ex hXL4 x92
          replace dl := (fun z hz => (dl z hz).ext x92)
          replace hr63 := (hr63.ext x92).top
          replace hbk2 := hbk2.ext x92
          refine Rg_run rfl (o_not rfl) ?_
          refine Rg_nil ?_
          refine W_cond_false rfl ?_
          refine W_skip (W_region ?_)
          refine Rg_run rfl (o_moveh (v := .pointer (some ⟨pb2, 0, none⟩)) rfl) ?_
          refine Rg_run rfl (o_moveh (v := u63) rfl) ?_
          refine Rg_run rfl (o_assignh (v := .pointer (some ⟨pb2, 0, none⟩)) rfl) ?_
          refine Rg_run rfl (o_assignh (v := u63) rfl) ?_
          refine Rg_nil (W_region ?_)
          refine Rg_run rfl (o_moveh (v := .int _ _) rfl) ?_
          refine Rg_run rfl (o_add rfl rfl (by unfold I64; omega)) ?_
          refine Rg_run rfl (o_assignh (v := .int _ _) rfl) ?_
          refine Rg_nil ?_
          refine ⟨(k + 1, (dropR m (l.getD k goz).ent).1, pb2, u63), ⟨?_, ?_, ?_, trivial⟩, ?_, ⟨?_, hXL4, ?_⟩, ?_⟩
          · first | rfl | (go_num) | (exact congrArg _ (by omega))
          · first | rfl | (go_num) | (exact congrArg _ (by omega))
          · first | rfl | (go_num) | (exact congrArg _ (by omega))
          · repeat (first | exact off_refl _ _ | exact off_mix | refine off_put rfl ?_ | refine off_putN ?_ | refine off_setL rfl ?_ | refine off_mix' rfl ?_)
          · exact (by have h := hm.step (l.getD k goz); have e : (stepGr m (l.getD k goz)).1 = (dropR m (l.getD k goz).ent).1 := (by rw [stepGr, if_pos hc2]); rw [e] at h; exact h)
          · exact ⟨hbk2, hr63⟩
          · show 14 - (k + 1) < 14 - k; omega
        refine Rg_on 3 83 rfl (congrArg Value.bool (by simp)) ?_
        refine Rg_run rfl (o_moveh (v := p57) rfl) ?_
        obtain hpe := hp57.2 hf
        subst hpe
        refine Rg_on 3 83 rfl (congrArg Value.bool (by simp)) ?_
        refine Rg_run rfl (o_peq Tryz.underlying61 rfl rfl) ?_
        refine Rg_on 3 83 rfl (congrArg Value.bool (by simp)) ?_
        refine Rg_run rfl (o_moveh (v := .int _ _) rfl) ?_
        refine Rg_on 3 83 rfl (congrArg Value.bool (by simp)) ?_
        refine Rg_run rfl (o_neq rfl rfl) ?_
        refine Rg_on 3 83 rfl (congrArg Value.bool (by simp)) ?_
        refine Rg_run rfl (o_bneq Tryz.underlying4 rfl rfl) ?_
        refine Rg_run rfl (o_pickF (v := .bool _) (congrArg Value.bool (by simp)) rfl) ?_
        refine Rg_nil ?_
        refine W_cond_false (congrArg Value.bool (by have hf9 := hf; generalize (dropR m (l.getD k goz).ent).2 = z at hf9 ⊢; simp [hf9])) ?_
        refine W_skip (W_seq (W_region ?_))
        refine Rg_run rfl (o_moveh (v := .int _ _) rfl) ?_
        refine Rg_run rfl (o_eql rfl rfl) ?_
        refine Rg_nil ?_
        refine W_cond_false (congrArg Value.bool (by have hf9 := hf; generalize (dropR m (l.getD k goz).ent).2 = z at hf9 ⊢; simp [hf9])) ?_
        refine W_skip (W_region ?_)
        refine Rg_run rfl (o_moveh (v := .int _ _) rfl) ?_
        refine Rg_run rfl (o_add rfl rfl (by unfold I64; omega)) ?_
        refine Rg_run rfl (o_assignh (v := .int _ _) rfl) ?_
        refine Rg_nil ?_
        refine ⟨(k + 1, m, pb, vm), ⟨?_, ?_, ?_, trivial⟩, ?_, ⟨?_, hXL4, ?_⟩, ?_⟩
        · first | rfl | (go_num) | (exact congrArg _ (by omega))
        · first | rfl | (go_num) | (exact congrArg _ (by omega))
        · first | rfl | (go_num) | (exact congrArg _ (by omega))
        · repeat (first | exact off_refl _ _ | exact off_mix | refine off_put rfl ?_ | refine off_putN ?_ | refine off_setL rfl ?_ | refine off_mix' rfl ?_)
        · exact hm
        · exact ⟨hbk.is, hrq.top⟩
        · show 14 - (k + 1) < 14 - k; omega
      refine W_seq (W_region ?_)
      refine Rg_run rfl (o_moveh (v := .pointer _) rfl) ?_
      refine Rg_run rfl (o_fa Tryz.underlying120 rfl Tryz.sizeOf3 rfl) ?_
      refine Rg_run rfl (o_load1 Tryz.isAgg3 rfl (hb9.at.get 0 rfl)) ?_
      refine Rg_run rfl (o_loadS Tryz.isAgg75 Tryz.sizeOf75 rfl hb7.at rfl) ?_
      refine Rg_enter rfl (o_call3 Tryz.call66 rfl rfl rfl) (Ok.mono (ggrant_ok _ m _ hbk.is hm (l.getD k goz).ent (l.getD k goz).okp) ?_)
      rintro _ w94 ⟨⟨p71, rfl, hp71⟩, x95⟩
      have z96 := Bel.size x95
      replace hX := Bel.ex hX x95
      replace hXL4 := Bel.ex hXL4 x95
      replace dl := (fun z hz => (dl z hz).ext x95)
      replace hbk := hbk.ext x95
      replace hrq := hrq.ext x95
      replace hb9 := hb9.ext x95
      refine Rg_run rfl (o_moveh (v := .tuple _) rfl) ?_
      refine Rg_run rfl (o_extract rfl rfl) ?_
      refine Rg_run rfl (o_extract rfl rfl) ?_
      refine Rg_run rfl (o_assignh (v := p71) rfl) ?_
      refine Rg_run rfl (o_assignh (v := .int _ _) rfl) ?_
      refine Rg_nil (W_region ?_)
      refine Rg_run rfl (o_moveh (v := vm) rfl) ?_
      refine Rg_run rfl (o_loadS Tryz.isAgg120 Tryz.sizeOf120 rfl hb9.at rfl) ?_
      refine Rg_enter rfl (o_call2 Tryz.call67 rfl rfl) (Ok.mono (r13grant_ok _ _ m _ hrq hm (l.getD k goz).ent (l.getD k goz).okp) ?_)
      rintro _ w97 ⟨⟨u77, rfl, hr77⟩, x98⟩
      have z99 := Bel.size x98
      replace hX := Bel.ex hX x98
      replace hXL4 := Bel.ex hXL4 x98
      replace dl := (fun z hz => (dl z hz).ext x98)
      replace hbk := hbk.ext x98
      replace hrq := hrq.ext x98
      replace hp71 := hp71.ext x98
      refine Rg_run rfl (o_moveh (v := .tuple _) rfl) ?_
      refine Rg_run rfl (o_extract rfl rfl) ?_
      refine Rg_run rfl (o_extract rfl rfl) ?_
      refine Rg_run rfl (o_assignh (v := u77) rfl) ?_
      refine Rg_run rfl (o_assignh (v := .int _ _) rfl) ?_
      refine Rg_nil (W_seq (W_seq (W_region ?_)))
      refine Rg_run rfl (o_moveh (v := .int _ _) rfl) ?_
      refine Rg_run rfl (o_moveh (v := .int _ _) rfl) ?_
      refine Rg_run rfl (o_neq rfl rfl) ?_
      refine Rg_run rfl (o_moveh (v := .bool _) rfl) ?_
      refine (Decidable.em ((grantR m (l.getD k goz).ent).2 = 0)).elim (fun hf => ?_) (fun hf => ?_)
      · skip
        refine Rg_on 3 83 rfl (congrArg Value.bool (by simp)) ?_
        refine Rg_run rfl (o_moveh (v := p71) rfl) ?_
        have hbk2 : GbIs w97 p71 (grantR m (l.getD k goz).ent).1 := hp71.1 hf
        obtain ⟨pb2, _, _, hpe, _, _⟩ := hp71.1 hf
        subst hpe
        refine Rg_on 3 83 rfl (congrArg Value.bool (by simp)) ?_
        refine Rg_run rfl (o_peq Tryz.underlying61 rfl rfl) ?_
        refine Rg_on 3 83 rfl (congrArg Value.bool (by simp)) ?_
        refine Rg_run rfl (o_moveh (v := .int _ _) rfl) ?_
        refine Rg_on 3 83 rfl (congrArg Value.bool (by simp)) ?_
        refine Rg_run rfl (o_neq rfl rfl) ?_
        refine Rg_on 3 83 rfl (congrArg Value.bool (by simp)) ?_
        refine Rg_run rfl (o_bneq Tryz.underlying4 rfl rfl) ?_
        refine Rg_run rfl (o_pickF (v := .bool _) (congrArg Value.bool (by simp)) rfl) ?_
        refine Rg_nil ?_
        refine W_cond_false (congrArg Value.bool (by have hf9 := hf; generalize (grantR m (l.getD k goz).ent).2 = z at hf9 ⊢; simp [hf9])) ?_
        refine W_skip (W_seq (W_region ?_))
        refine Rg_run rfl (o_moveh (v := .int _ _) rfl) ?_
        refine Rg_run rfl (o_eql rfl rfl) ?_
        refine Rg_nil ?_
        refine W_cond_true (congrArg Value.bool (by have hf9 := hf; generalize (grantR m (l.getD k goz).ent).2 = z at hf9 ⊢; simp [hf9])) ?_
        refine W_seq (W_seq (W_region ?_))
        refine Rg_run rfl (o_moveh (v := .pointer _) rfl) ?_
        refine Rg_run rfl (o_moveh (v := vm) rfl) ?_
        refine Rg_enter rfl (o_call2 Tryz.call68 rfl rfl) (Ok.mono (lis13_ok _ _ _ hbk.is hm _ hrq.top) ?_)
        rintro _ w100 ⟨rfl, x101⟩
        have z102 := Bel.size x101
        replace hX := Bel.ex hX x101
        replace hXL4 := Bel.ex hXL4 x101
        replace dl := (fun z hz => (dl z hz).ext x101)
        replace hr77 := (hr77.ext x101).top
        replace hbk2 := hbk2.ext x101
        refine Rg_run rfl (o_not rfl) ?_
        refine Rg_nil ?_
        refine W_cond_false rfl ?_
        refine W_skip (W_region ?_)
        refine Rg_run rfl (o_moveh (v := .pointer (some ⟨pb2, 0, none⟩)) rfl) ?_
        refine Rg_run rfl (o_moveh (v := u77) rfl) ?_
        refine Rg_run rfl (o_assignh (v := .pointer (some ⟨pb2, 0, none⟩)) rfl) ?_
        refine Rg_run rfl (o_assignh (v := u77) rfl) ?_
        refine Rg_nil (W_region ?_)
        refine Rg_run rfl (o_moveh (v := .int _ _) rfl) ?_
        refine Rg_run rfl (o_add rfl rfl (by unfold I64; omega)) ?_
        refine Rg_run rfl (o_assignh (v := .int _ _) rfl) ?_
        refine Rg_nil ?_
        refine ⟨(k + 1, (grantR m (l.getD k goz).ent).1, pb2, u77), ⟨?_, ?_, ?_, trivial⟩, ?_, ⟨?_, hXL4, ?_⟩, ?_⟩
        · first | rfl | (go_num) | (exact congrArg _ (by omega))
        · first | rfl | (go_num) | (exact congrArg _ (by omega))
        · first | rfl | (go_num) | (exact congrArg _ (by omega))
        · repeat (first | exact off_refl _ _ | exact off_mix | refine off_put rfl ?_ | refine off_putN ?_ | refine off_setL rfl ?_ | refine off_mix' rfl ?_)
        · exact (by have h := hm.step (l.getD k goz); have e : (stepGr m (l.getD k goz)).1 = (grantR m (l.getD k goz).ent).1 := (by rw [stepGr, if_neg (by rw [hc2]; simp)]); rw [e] at h; exact h)
        · exact ⟨hbk2, hr77⟩
        · show 14 - (k + 1) < 14 - k; omega
      refine Rg_on 3 83 rfl (congrArg Value.bool (by simp)) ?_
      refine Rg_run rfl (o_moveh (v := p71) rfl) ?_
      obtain hpe := hp71.2 hf
      subst hpe
      refine Rg_on 3 83 rfl (congrArg Value.bool (by simp)) ?_
      refine Rg_run rfl (o_peq Tryz.underlying61 rfl rfl) ?_
      refine Rg_on 3 83 rfl (congrArg Value.bool (by simp)) ?_
      refine Rg_run rfl (o_moveh (v := .int _ _) rfl) ?_
      refine Rg_on 3 83 rfl (congrArg Value.bool (by simp)) ?_
      refine Rg_run rfl (o_neq rfl rfl) ?_
      refine Rg_on 3 83 rfl (congrArg Value.bool (by simp)) ?_
      refine Rg_run rfl (o_bneq Tryz.underlying4 rfl rfl) ?_
      refine Rg_run rfl (o_pickF (v := .bool _) (congrArg Value.bool (by simp)) rfl) ?_
      refine Rg_nil ?_
      refine W_cond_false (congrArg Value.bool (by have hf9 := hf; generalize (grantR m (l.getD k goz).ent).2 = z at hf9 ⊢; simp [hf9])) ?_
      refine W_skip (W_seq (W_region ?_))
      refine Rg_run rfl (o_moveh (v := .int _ _) rfl) ?_
      refine Rg_run rfl (o_eql rfl rfl) ?_
      refine Rg_nil ?_
      refine W_cond_false (congrArg Value.bool (by have hf9 := hf; generalize (grantR m (l.getD k goz).ent).2 = z at hf9 ⊢; simp [hf9])) ?_
      refine W_skip (W_region ?_)
      refine Rg_run rfl (o_moveh (v := .int _ _) rfl) ?_
      refine Rg_run rfl (o_add rfl rfl (by unfold I64; omega)) ?_
      refine Rg_run rfl (o_assignh (v := .int _ _) rfl) ?_
      refine Rg_nil ?_
      refine ⟨(k + 1, m, pb, vm), ⟨?_, ?_, ?_, trivial⟩, ?_, ⟨?_, hXL4, ?_⟩, ?_⟩
      · first | rfl | (go_num) | (exact congrArg _ (by omega))
      · first | rfl | (go_num) | (exact congrArg _ (by omega))
      · first | rfl | (go_num) | (exact congrArg _ (by omega))
      · repeat (first | exact off_refl _ _ | exact off_mix | refine off_put rfl ?_ | refine off_putN ?_ | refine off_setL rfl ?_ | refine off_mix' rfl ?_)
      · exact hm
      · exact ⟨hbk.is, hrq.top⟩
      · show 14 - (k + 1) < 14 - k; omega
  skip
  refine W_exit (exAt_hit (W_seq (W_region ?_)))
  refine Rg_run rfl (o_moveh (v := .pointer _) rfl) ?_
  refine Rg_run rfl (o_moveh (v := vm) rfl) ?_
  refine Rg_run rfl (o_assignh (v := .pointer _) rfl) ?_
  refine Rg_run rfl (o_assignh (v := vm) rfl) ?_
  refine Rg_nil (W_ret ?_)
  refine ⟨_, res_tmp2 rfl rfl rfl, ?_⟩
  exact ⟨⟨_, _, m, rfl, hm, hbk.is.f, hrq.top⟩, hX⟩

end Go.Proofs.YtncmjgmlnnenhaaGreatDoor
