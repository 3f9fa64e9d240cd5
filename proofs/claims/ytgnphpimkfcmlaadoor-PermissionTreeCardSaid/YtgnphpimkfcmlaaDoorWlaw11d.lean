/- Walks, printed by program: each theorem says what a function of the translation returns. -/
import Derived.Test.YtgnphpimkfcmlaaDoorWlaw11a
import Derived.Test.YtgnphpimkfcmlaaDoorWanc
namespace Go.Proofs.YtgnphpimkfcmlaaDoor
open Go Go.Lx Go.RowKit
set_option maxRecDepth 100000
set_option linter.unusedVariables false
set_option linter.unusedSimpArgs false
set_option linter.unnecessarySimpa false
theorem law_PermissionTree (w : World) (x : RawV) (hx : Sl encB 1 (Lt w.heap.size) w x.a x.c x.names) (vl : Value) (l : List UInt8) (hl : Rd encB 1 (Lt w.heap.size) w vl l) : Ok Tryd.prog 12 #[.agg (encR x).toArray, vl] w fun v w' => v = .bool (true) ∧ Ext False w w' := by
  obtain ⟨al, cl, rfl, hl⟩ := hl; have ml := hl.len
  refine Ok_of_W 73 Tryd.func12 rfl rfl rfl ?_
  have hX : Ext False w w := Bel.refl _ _
  refine W_seq ?_
  refine W_region ?_
  refine Rg_newB rfl (o_box (v := .agg _) rfl) ?_
  intro b2 w1 x2 hge2 hb2
  have hlt2 := hb2.lt
  change Box _ _ _ (encR _) at hb2
  have z3 := Bel.size x2
  replace hX := Bel.ex hX x2
  replace hx := hx.ext x2
  replace hl := hl.ext x2
  refine Rg_run rfl o_assignc ?_
  refine Rg_nil ?_
  refine W_seq ?_
  refine W_seq ?_
  refine W_region ?_
  refine Rg_enter rfl (o_call0 Tryd.call13) (Ok.mono (awake_ok _) ?_)
  rintro _ w4 ⟨rfl, x5⟩
  have z6 := Bel.size x5
  replace hX := Bel.ex hX x5
  replace hx := hx.ext x5
  replace hl := hl.ext x5
  replace hb2 := hb2.ext x5
  refine Rg_run rfl (o_not rfl) ?_
  refine Rg_nil ?_
  refine W_cond rfl (fun hc1 => ?_) (fun hc1 => ?_)
  · skip
    refine W_seq ?_
    refine W_region ?_
    refine Rg_run rfl o_assignc ?_
    refine Rg_nil ?_
    refine W_ret ?_
    refine ⟨_, res_tmp rfl rfl, ?_⟩
    refine ⟨congrArg Value.bool ?_, hX⟩
    all_goals (cases hc1)
  · skip
    refine W_skip ?_
    refine W_seq ?_
    refine W_region ?_
    refine Rg_run rfl (o_loadS Tryd.isAgg24 Tryd.sizeOf24 rfl hb2.at rfl) ?_
    refine Rg_enter rfl (o_call1 Tryd.call14 rfl) (Ok.mono (make_ok _ _ hx.top) ?_)
    rintro _ w7 ⟨rfl, x8⟩
    have z9 := Bel.size x8
    replace hX := Bel.ex hX x8
    replace hx := hx.ext x8
    replace hl := hl.ext x8
    replace hb2 := hb2.ext x8
    refine Rg_run rfl (o_moveh (v := .tuple _) rfl) ?_
    refine Rg_run rfl (o_extract rfl rfl) ?_
    refine Rg_run rfl (o_extract rfl rfl) ?_
    refine Rg_newB rfl (o_alloc Tryd.zeroValue27) ?_
    intro b5 w10 x11 hge5 hb5
    have hlt5 := hb5.lt
    change Box _ _ _ ([str _, str _, .bool _]) at hb5
    have z12 := Bel.size x11
    replace hX := Bel.ex hX x11
    replace hx := hx.ext x11
    replace hl := hl.ext x11
    replace hb2 := hb2.ext x11
    refine Rg_newB rfl (o_alloc Tryd.zeroValue28) ?_
    intro b6 w13 x14 hge6 hb6
    have hlt6 := hb6.lt
    change Box _ _ _ ([str _, str _, .bool _]) at hb6
    have z15 := Bel.size x14
    replace hX := Bel.ex hX x14
    replace hx := hx.ext x14
    replace hl := hl.ext x14
    replace hb2 := hb2.ext x14
    replace hb5 := hb5.ext x14
    refine Rg_storeW (v := .agg _) rfl Tryd.sizeOf27 rfl rfl hb5 rfl rfl rfl ?_
    intro w16 c17 hb5
    change Box _ _ _ (encP _) at hb5
    have z18 := Bel.size c17
    replace hX := Bel.out hX c17 (fun g h1 h2 => by first | exact h2 | omega)
    replace hx := hx.keep c17 (fun g h1 h2 h3 => by omega)
    replace hl := hl.keep c17 (fun g h1 h2 h3 => by omega)
    replace hb2 := hb2.keep c17 (fun h => by omega)
    replace hb6 := hb6.keep c17 (fun h => by omega)
    refine Rg_storeW (v := .agg _) rfl Tryd.sizeOf28 rfl rfl hb6 rfl rfl rfl ?_
    intro w19 c20 hb6
    change Box _ _ _ (encP _) at hb6
    have z21 := Bel.size c20
    replace hX := Bel.out hX c20 (fun g h1 h2 => by first | exact h2 | omega)
    replace hx := hx.keep c20 (fun g h1 h2 h3 => by omega)
    replace hl := hl.keep c20 (fun g h1 h2 h3 => by omega)
    replace hb2 := hb2.keep c20 (fun h => by omega)
    replace hb5 := hb5.keep c20 (fun h => by omega)
    refine Rg_nil ?_
    refine W_seq ?_
    refine W_region ?_
    refine Rg_run rfl (o_moveh (v := .slice _ _ _) rfl) ?_
    refine Rg_enter rfl (o_call1 Tryd.call18 rfl) (Ok.mono (rpath_ok _ _ _ hl.trd) ?_)
    rintro _ w22 ⟨rfl, x23⟩
    have z24 := Bel.size x23
    replace hX := Bel.ex hX x23
    replace hx := hx.ext x23
    replace hl := hl.ext x23
    replace hb2 := hb2.ext x23
    replace hb5 := hb5.ext x23
    replace hb6 := hb6.ext x23
    refine Rg_run rfl (o_assignh (v := str _) rfl) ?_
    refine Rg_nil ?_
    refine W_seq ?_
    refine W_seq ?_
    refine W_region ?_
    refine Rg_run rfl (o_loadS Tryd.isAgg27 Tryd.sizeOf27 rfl hb5.at rfl) ?_
    refine Rg_enter rfl (o_call1 Tryd.call15 rfl) (Ok.mono (check_ok (False) _ x.ok _) ?_)
    rintro _ w25 ⟨rfl, x26⟩
    have z27 := Bel.size x26
    replace hX := Bel.ex hX x26
    replace hx := hx.ext x26
    replace hl := hl.ext x26
    replace hb2 := hb2.ext x26
    replace hb5 := hb5.ext x26
    replace hb6 := hb6.ext x26
    refine Rg_run rfl (o_neq rfl rfl) ?_
    refine Rg_run rfl (o_moveh (v := .bool _) rfl) ?_
    refine Rg_may 3 23 rfl rfl rfl (fun hg => (o_moveh (v := str _) rfl)) ?_
    refine Rg_mayCall 3 23 rfl rfl rfl (fun hg => ⟨(o_call1 Tryd.call39 (gsel (u := undef) hg)), pvalid_ok (False) _ (by have := pathS_len l; omega) _⟩) ?_
    intro w28 x29
    have z30 := Bel.size x29
    replace hX := Bel.ex hX x29
    replace hx := hx.ext x29
    replace hl := hl.ext x29
    replace hb2 := hb2.ext x29
    replace hb5 := hb5.ext x29
    replace hb6 := hb6.ext x29
    refine Rg_may 3 23 rfl rfl rfl (fun hg => (o_not (gsel (u := undef) hg))) ?_
    refine Rg_run rfl (o_or (u := undef) rfl rfl) ?_
    refine Rg_nil ?_
    refine W_cond rfl (fun hc2 => ?_) (fun hc2 => ?_)
    · skip
      refine W_seq ?_
      refine W_region ?_
      refine Rg_run rfl (o_loadS Tryd.isAgg27 Tryd.sizeOf27 rfl hb5.at rfl) ?_
      refine Rg_run rfl (o_fa Tryd.underlying27 rfl Tryd.sizeOf9 rfl) ?_
      refine Rg_run rfl (o_load1 Tryd.isAgg9 rfl (hb5.at.get 0 rfl)) ?_
      refine Rg_run rfl (o_moveh (v := str _) rfl) ?_
      refine Rg_enter rfl (o_call3 Tryd.call19 rfl rfl rfl) (Ok.mono (covers_ok (False) _ x.ok _ _ (by have := actionS_len x.act; show (actionS x.act).length ≤ _; omega) (by have := pathS_len l; omega) _) ?_)
      rintro _ w31 ⟨rfl, x32⟩
      have z33 := Bel.size x32
      replace hX := Bel.ex hX x32
      replace hx := hx.ext x32
      replace hl := hl.ext x32
      replace hb2 := hb2.ext x32
      replace hb5 := hb5.ext x32
      replace hb6 := hb6.ext x32
      refine Rg_run rfl (o_not rfl) ?_
      refine Rg_run rfl (o_moveh (v := .bool _) rfl) ?_
      refine Rg_may 6 34 rfl rfl rfl (fun hg => (o_loadS Tryd.isAgg27 Tryd.sizeOf27 rfl hb5.at rfl)) ?_
      refine Rg_mayCall 6 34 rfl rfl rfl (fun hg => ⟨(o_call1 Tryd.call15 (gsel (u := undef) hg)), check_ok (False) _ x.ok _⟩) ?_
      intro w34 x35
      have z36 := Bel.size x35
      replace hX := Bel.ex hX x35
      replace hx := hx.ext x35
      replace hl := hl.ext x35
      replace hb2 := hb2.ext x35
      replace hb5 := hb5.ext x35
      replace hb6 := hb6.ext x35
      refine Rg_may 6 34 rfl rfl rfl (fun hg => (o_eql (gsel (u := undef) hg) rfl)) ?_
      refine Rg_may 6 34 rfl rfl rfl (fun hg => (o_moveh (v := .bool _) (gsel (u := undef) hg))) ?_
      refine Rg_may2 10 38 rfl rfl rfl (fun hg => (o_moveh (v := str _) rfl)) ?_
      refine Rg_mayCall2 10 38 rfl rfl rfl (fun hg => ⟨(o_call1 Tryd.call39 (gsel (u := undef) hg)), pvalid_ok (False) _ (by have := pathS_len l; omega) _⟩) ?_
      intro w37 x38
      have z39 := Bel.size x38
      replace hX := Bel.ex hX x38
      replace hx := hx.ext x38
      replace hl := hl.ext x38
      replace hb2 := hb2.ext x38
      replace hb5 := hb5.ext x38
      replace hb6 := hb6.ext x38
      refine Rg_may 6 34 rfl rfl rfl (fun hg => (o_and (u := undef) (gsel (u := undef) hg) (gand (u := undef) hg))) ?_
      refine Rg_run rfl (o_or (u := undef) rfl rfl) ?_
      refine Rg_run rfl (o_assignh (v := .bool _) rfl) ?_
      refine Rg_nil ?_
      refine W_ret ?_
      refine ⟨_, res_tmp rfl rfl, ?_⟩
      refine ⟨congrArg Value.bool ?_, hX⟩
      all_goals (rw [tree_bad hc2]; rfl)
    · skip
      refine W_skip ?_
      refine W_seq ?_
      refine W_region ?_
      refine Rg_run rfl (o_moveh (v := str _) rfl) ?_
      refine Rg_run rfl (o_fa Tryd.underlying27 rfl Tryd.sizeOf9 rfl) ?_
      refine Rg_run rfl (o_load1 Tryd.isAgg9 rfl (hb5.at.get 1 rfl)) ?_
      refine Rg_run rfl (o_seql rfl rfl) ?_
      refine Rg_run rfl (o_assignh (v := .bool _) rfl) ?_
      refine Rg_nil ?_
      refine W_seq ?_
      refine W_seq ?_
      refine W_region ?_
      refine Rg_run rfl (o_moveh (v := str _) rfl) ?_
      refine Rg_enter rfl (o_call1 Tryd.call40 rfl) (Ok.mono (panc_ok _ _ (by have := pathS_len l; omega)) ?_)
      rintro v48 w40 ⟨hown48, x41⟩
      have z42 := Bel.size x41
      replace hX := Bel.ex hX x41
      replace hx := hx.ext x41
      replace hl := hl.ext x41
      replace hb2 := hb2.ext x41
      replace hb5 := hb5.ext x41
      replace hb6 := hb6.ext x41
      replace hown48 := hown48.mono (D' := fun g => w.heap.size ≤ g) (fun g h1 h2 => by omega)
      obtain ⟨a48, c48, hv48, hs48⟩ := hown48.sl encS_ok; subst hv48
      refine Rg_run rfl (o_llen Tryd.underlying67 rfl) ?_
      refine Rg_run rfl o_movec ?_
      refine Rg_nil ?_
      refine W_block ?_
      refine W_for (α := Nat) [(8, 8), (10, 10), (50, 65)] (fun k => [(50, .int .i64 (k : Int)), (8, .bool (treeAt x.perm (pathS l) k))]) (fun k w' => (k ≤ (ancS (pathS l)).length) ∧ Ext False w40 w') (fun k => (ancS (pathS l)).length - k) 0 ⟨rfl, (congrArg Value.bool (a₁ := (pathS l == x.perm.path)) (by simp [treeAt])), trivial⟩ ⟨Nat.zero_le _, Bel.refl _ _⟩ ?_
      rintro k fb45 w44 ⟨hk, hXL43⟩
      have z46 := Bel.size hXL43
      replace hX := Bel.ex hX hXL43
      replace hx := hx.ext hXL43
      replace hl := hl.ext hXL43
      replace hb2 := hb2.ext hXL43
      replace hb5 := hb5.ext hXL43
      replace hb6 := hb6.ext hXL43
      replace hs48 := hs48.ext hXL43
      refine W_seq ?_
      refine W_region ?_
      refine Rg_run rfl (o_lss rfl rfl) ?_
      refine Rg_nil ?_
      refine W_seq ?_
      refine W_cond rfl (fun hc3 => ?_) (fun hc3 => ?_)
      · skip
        replace hc3 := of_decide_eq_true hc3
        refine W_skip ?_
        refine W_seq ?_
        refine W_block ?_
        refine W_seq ?_
        refine W_region ?_
        refine Rg_run rfl (o_iaR Tryd.underlying67 Tryd.sizeOf9 hs48 rfl rfl (by first | omega | (unfold I64; omega) | (simp; done) | (simp; omega) | (simp at *; omega))) ?_
        refine Rg_run rfl (o_ldR Tryd.isAgg9 hs48 rfl rfl (getE [] (by omega)) rfl) ?_
        refine Rg_run rfl (o_assignh (v := str _) rfl) ?_
        refine Rg_nil ?_
        refine W_region ?_
        refine Rg_run rfl (o_moveh (v := .bool _) rfl) ?_
        refine Rg_run rfl (o_moveh (v := .bool _) rfl) ?_
        refine Rg_may 1 55 rfl rfl rfl (fun hg => (o_fa Tryd.underlying27 rfl Tryd.sizeOf4 rfl)) ?_
        refine Rg_may 1 55 rfl rfl rfl (fun hg => (o_load1 Tryd.isAgg4 (gsel (u := undef) hg) (hb5.at.get 2 rfl))) ?_
        refine Rg_may 1 55 rfl rfl rfl (fun hg => (o_moveh (v := .bool _) (gsel (u := undef) hg))) ?_
        refine Rg_may2 4 58 rfl rfl rfl (fun hg => (o_moveh (v := str _) rfl)) ?_
        refine Rg_may2 4 58 rfl rfl rfl (fun hg => (o_fa Tryd.underlying27 rfl Tryd.sizeOf9 rfl)) ?_
        refine Rg_may2 4 58 rfl rfl rfl (fun hg => (o_load1 Tryd.isAgg9 (gsel (u := undef) hg) (hb5.at.get 1 rfl))) ?_
        refine Rg_may2 4 58 rfl rfl rfl (fun hg => (o_seql (gsel (u := undef) hg) (gsel (u := undef) hg))) ?_
        refine Rg_may 1 55 rfl rfl rfl (fun hg => (o_and (u := undef) (gsel (u := undef) hg) (gand (u := undef) hg))) ?_
        refine Rg_run rfl (o_or (u := undef) rfl rfl) ?_
        refine Rg_run rfl (o_assignh (v := .bool _) rfl) ?_
        refine Rg_nil ?_
        refine W_region ?_
        refine Rg_run rfl (o_add rfl rfl (by have := ancS_len (pathS l); have := splitL_len (pathS l); unfold I64; omega)) ?_
        refine Rg_run rfl (o_moveh (v := .int _ _) rfl) ?_
        refine Rg_nil ?_
        refine ⟨k + 1, ⟨?_, ?_, trivial⟩, ?_, ⟨?_, hXL43⟩, ?_⟩
        · first | rfl | (go_num) | (exact congrArg _ (by omega))
        · exact congrArg Value.bool (tree_succ (k := k) (by omega)).symm
        · repeat (first | exact off_refl _ _ | exact off_mix | refine off_put rfl ?_ | refine off_putN ?_ | refine off_setL rfl ?_ | refine off_mix' rfl ?_)
        · show k + 1 ≤ _; omega
        · omega
      · skip
        replace hc3 := of_decide_eq_false hc3
        refine W_exit ?_
        refine exAt_hit ?_
        refine W_seq ?_
        refine W_region ?_
        refine Rg_run rfl (o_loadS Tryd.isAgg27 Tryd.sizeOf27 rfl hb5.at rfl) ?_
        refine Rg_run rfl (o_fa Tryd.underlying27 rfl Tryd.sizeOf9 rfl) ?_
        refine Rg_run rfl (o_load1 Tryd.isAgg9 rfl (hb5.at.get 0 rfl)) ?_
        refine Rg_run rfl (o_moveh (v := str _) rfl) ?_
        refine Rg_enter rfl (o_call3 Tryd.call19 rfl rfl rfl) (Ok.mono (covers_ok (False) _ x.ok _ _ (by have := actionS_len x.act; show (actionS x.act).length ≤ _; omega) (by have := pathS_len l; omega) _) ?_)
        rintro _ w47 ⟨rfl, x48⟩
        have z49 := Bel.size x48
        replace hX := Bel.ex hX x48
        replace hx := hx.ext x48
        replace hl := hl.ext x48
        replace hb2 := hb2.ext x48
        replace hb5 := hb5.ext x48
        replace hb6 := hb6.ext x48
        replace hs48 := hs48.ext x48
        refine Rg_run rfl (o_moveh (v := .bool _) rfl) ?_
        refine Rg_run rfl (o_beql Tryd.underlying4 rfl rfl) ?_
        refine Rg_run rfl (o_assignh (v := .bool _) rfl) ?_
        refine Rg_nil ?_
        refine W_ret ?_
        refine ⟨_, res_tmp rfl rfl, ?_⟩
        refine ⟨congrArg Value.bool ?_, hX⟩
        all_goals (rw [tree_law (k := k) (by simp at hc2; exact hc2.1) (by simp at hc2; exact hc2.2) (by omega)]; simp)

end Go.Proofs.YtgnphpimkfcmlaaDoor
