/- Walks, printed by program: each theorem says what a function of the translation returns. -/
import Derived.Test.YtgnphpimkfcmlaaDoorWref11d
import Derived.Test.YtgnphpimkfcmlaaDoorWcommon
import Derived.Test.YtgnphpimkfcmlaaDoorWpset
import Derived.Test.YtgnphpimkfcmlaaDoorWtext
import Derived.Test.YtgnphpimkfcmlaaDoorPure11e
namespace Go.Proofs.YtgnphpimkfcmlaaDoor
open Go Go.Lx Go.RowKit
set_option maxRecDepth 100000
set_option linter.unusedVariables false
set_option linter.unusedSimpArgs false
set_option linter.unnecessarySimpa false
theorem el_raw : ElT Tryd.prog 45 24 3 40 (.agg #[.int .u8 0, .slice none 0 0, .bool false]) := ⟨Tryd.underlying45, ⟨Tryd.t24, by kernel_rfl, rfl, rfl, rfl⟩, rfl, by decide, by decide⟩
theorem make_ok (w : World) (x : RawV) (hx : Sl encB 1 (Lt w.heap.size) w x.a x.c x.names) : Ok Tryd.prog 14 #[.agg (encR x).toArray] w fun v w' => v = .tuple #[.agg (encP x.perm).toArray, .agg (encP x.perm).toArray] ∧ Ext False w w' := by
  refine Ok_of_W 16 Tryd.func14 rfl rfl rfl ?_
  have hX : Ext False w w := Bel.refl _ _
  refine W_seq ?_
  refine W_region ?_
  refine Rg_newB rfl (o_box (v := .agg _) rfl) ?_
  intro b1 w1 x2 hge1 hb1
  have hlt1 := hb1.lt
  change Box _ _ _ (encR _) at hb1
  have z3 := Bel.size x2
  replace hX := Bel.ex hX x2
  replace hx := hx.ext x2
  refine Rg_newB rfl (o_alloc Tryd.zeroValue27) ?_
  intro b2 w4 x5 hge2 hb2
  have hlt2 := hb2.lt
  change Box _ _ _ ([str _, str _, .bool _]) at hb2
  have z6 := Bel.size x5
  replace hX := Bel.ex hX x5
  replace hx := hx.ext x5
  replace hb1 := hb1.ext x5
  refine Rg_newB rfl (o_alloc Tryd.zeroValue28) ?_
  intro b3 w7 x8 hge3 hb3
  have hlt3 := hb3.lt
  change Box _ _ _ ([str _, str _, .bool _]) at hb3
  have z9 := Bel.size x8
  replace hX := Bel.ex hX x8
  replace hx := hx.ext x8
  replace hb1 := hb1.ext x8
  replace hb2 := hb2.ext x8
  refine Rg_nil ?_
  refine W_seq ?_
  apply W_drawC (β := False) (fun _ => 0) [peqC _, peqC _, peqC _, peqC _, peqC _, peqC _, peqC _, peqC _, peqC _, (postBox w7 28 [str [], str [], .bool false])] [0, 0, 0, 0, 0, 0, 0, 0, 0, 0] 10 mixed (by kernel_rfl) (by kernel_rfl) rfl ⟨peqC_stable _ _, peqC_stable _ _, peqC_stable _ _, peqC_stable _ _, peqC_stable _ _, peqC_stable _ _, peqC_stable _ _, peqC_stable _ _, peqC_stable _ _, (postBox_stable), trivial⟩ ?ob1 ?fin1
  case ob1 =>
    refine OblC_cons (fun w10 c12 x11 hc013 hk14 => ?_) ?_
    · skip
      replace x11 := RelG.ext0 x11
      have z15 := Bel.size x11
      have hx := hx.ext x11
      have hb1 := hb1.ext x11
      have hb2 := hb2.ext x11
      have hb3 := hb3.ext x11
      refine bindC_nil ?_
      exact OpC_v rfl (o_fa Tryd.underlying24 rfl Tryd.sizeOf5 rfl)
    refine OblC_cons (fun w16 c18 x17 hc019 hk20 => ?_) ?_
    · skip
      replace x17 := RelG.ext0 x17
      have z21 := Bel.size x17
      have hx := hx.ext x17
      have hb1 := hb1.ext x17
      have hb2 := hb2.ext x17
      have hb3 := hb3.ext x17
      refine bindC_eq ?_
      refine bindC_nil ?_
      exact OpC_v rfl (o_load1 Tryd.isAgg5 rfl (hb1.at.get 0 rfl))
    refine OblC_cons (fun w22 c24 x23 hc025 hk26 => ?_) ?_
    · skip
      replace x23 := RelG.ext0 x23
      have z27 := Bel.size x23
      have hx := hx.ext x23
      have hb1 := hb1.ext x23
      have hb2 := hb2.ext x23
      have hb3 := hb3.ext x23
      refine bindC_eq ?_
      refine bindC_nil ?_
      exact OpC_call rfl (o_call1 Tryd.call17 rfl) (raction_ok (False) _ _)
    refine OblC_cons (fun w28 c30 x29 hc031 hk32 => ?_) ?_
    · skip
      replace x29 := RelG.ext0 x29
      have z33 := Bel.size x29
      have hx := hx.ext x29
      have hb1 := hb1.ext x29
      have hb2 := hb2.ext x29
      have hb3 := hb3.ext x29
      refine bindC_nil ?_
      exact OpC_v rfl (o_fa Tryd.underlying24 rfl Tryd.sizeOf22 rfl)
    refine OblC_cons (fun w34 c36 x35 hc037 hk38 => ?_) ?_
    · skip
      replace x35 := RelG.ext0 x35
      have z39 := Bel.size x35
      have hx := hx.ext x35
      have hb1 := hb1.ext x35
      have hb2 := hb2.ext x35
      have hb3 := hb3.ext x35
      refine bindC_eq ?_
      refine bindC_nil ?_
      exact OpC_v rfl (o_load1 Tryd.isAgg22 rfl (hb1.at.get 1 rfl))
    refine OblC_cons (fun w40 c42 x41 hc043 hk44 => ?_) ?_
    · skip
      replace x41 := RelG.ext0 x41
      have z45 := Bel.size x41
      have hx := hx.ext x41
      have hb1 := hb1.ext x41
      have hb2 := hb2.ext x41
      have hb3 := hb3.ext x41
      refine bindC_eq ?_
      refine bindC_eq ?_
      refine bindC_nil ?_
      exact OpC_call rfl (o_call1 Tryd.call18 rfl) (rpath_ok _ _ _ hx.trd)
    refine OblC_cons (fun w46 c48 x47 hc049 hk50 => ?_) ?_
    · skip
      replace x47 := RelG.ext0 x47
      have z51 := Bel.size x47
      have hx := hx.ext x47
      have hb1 := hb1.ext x47
      have hb2 := hb2.ext x47
      have hb3 := hb3.ext x47
      refine bindC_nil ?_
      exact OpC_v rfl (o_fa Tryd.underlying24 rfl Tryd.sizeOf4 rfl)
    refine OblC_cons (fun w52 c54 x53 hc055 hk56 => ?_) ?_
    · skip
      replace x53 := RelG.ext0 x53
      have z57 := Bel.size x53
      have hx := hx.ext x53
      have hb1 := hb1.ext x53
      have hb2 := hb2.ext x53
      have hb3 := hb3.ext x53
      refine bindC_eq ?_
      refine bindC_nil ?_
      exact OpC_v rfl (o_load1 Tryd.isAgg4 rfl (hb1.at.get 2 rfl))
    refine OblC_cons (fun w58 c60 x59 hc061 hk62 => ?_) ?_
    · skip
      replace x59 := RelG.ext0 x59
      have z63 := Bel.size x59
      have hx := hx.ext x59
      have hb1 := hb1.ext x59
      have hb2 := hb2.ext x59
      have hb3 := hb3.ext x59
      refine bindC_eq ?_
      refine bindC_eq ?_
      refine bindC_eq ?_
      refine bindC_nil ?_
      exact OpC_v rfl (o_build (cells := encP x.perm) (vs := [(0, str _), (1, str _), (2, .bool _)]) rfl (by kernel_rfl))
    refine OblC_cons (fun w64 c66 x65 hc067 hk68 => ?_) ?_
    · skip
      replace x65 := RelG.ext0 x65
      have z69 := Bel.size x65
      have hx := hx.ext x65
      have hb1 := hb1.ext x65
      have hb2 := hb2.ext x65
      have hb3 := hb3.ext x65
      refine bindC_nil ?_
      exact OpC_box (Bel.size x65) rfl (o_alloc Tryd.zeroValue28)
    exact OblC_nil
  case fin1 =>
    intro w70 c72 x71 hc073
    replace x71 := RelG.ext0 x71
    have z74 := Bel.size x71
    replace hX := Bel.ex hX x71
    replace hx := hx.ext x71
    replace hb1 := hb1.ext x71
    replace hb2 := hb2.ext x71
    replace hb3 := hb3.ext x71
    refine bindC_eq ?_
    refine bindC_eq ?_
    refine bindC_eq ?_
    refine bindC_eq ?_
    refine bindC_eq ?_
    refine bindC_eq ?_
    refine bindC_eq ?_
    refine bindC_eq ?_
    refine bindC_eq ?_
    refine bindC_mem (fun v4 hv4 => ?_)
    refine bindC_nil ?_
    obtain ⟨b4, rfl, hge4, hb4, -⟩ := hv4
    have hlt4 := hb4.lt
    refine Rg_storeW (v := .agg _) rfl Tryd.sizeOf28 rfl rfl hb4 rfl rfl rfl ?_
    intro w75 c76 hb4
    change Box _ _ _ (encP _) at hb4
    have z77 := Bel.size c76
    replace hX := Bel.out hX c76 (fun g h1 h2 => by first | exact h2 | omega)
    replace hx := hx.keep c76 (fun g h1 h2 h3 => by omega)
    replace hb1 := hb1.keep c76 (fun h => by omega)
    replace hb2 := hb2.keep c76 (fun h => by omega)
    replace hb3 := hb3.keep c76 (fun h => by omega)
    refine Rg_nil ?_
    refine W_seq ?_
    apply W_drawC (β := False) (fun b => if b = b2 then 1 else 0) [peqC _, peqC _, (postAt b2 1 _ (encP _))] [0, 0, 1] 3 mixed (by kernel_rfl) (by kernel_rfl) rfl ⟨peqC_stable _ _, peqC_stable _ _, (postAt_stable), trivial⟩ ?ob2 ?fin2
    case ob2 =>
      refine OblC_cons (fun w78 c80 x79 hc081 hk82 => ?_) ?_
      · skip
        replace x79 := Bel.mono x79 (D' := fun g => g = b2) (fun g hg h => Classical.byContradiction fun hn => h (by (try simp only [not_or] at hn); simp [hn]))
        have z83 := Bel.size x79
        have hx := hx.keep x79 (fun g h1 h2 h3 => by omega)
        have hb1 := hb1.keep x79 (fun h => by omega)
        have hb3 := hb3.keep x79 (fun h => by omega)
        have hb4 := hb4.keep x79 (fun h => by omega)
        refine bindC_nil ?_
        exact OpC_v rfl (o_loadS Tryd.isAgg28 Tryd.sizeOf28 rfl hb4.at rfl)
      refine OblC_cons (fun w84 c86 x85 hc087 hk88 => ?_) ?_
      · skip
        replace x85 := Bel.mono x85 (D' := fun g => g = b2) (fun g hg h => Classical.byContradiction fun hn => h (by (try simp only [not_or] at hn); simp [hn]))
        have z89 := Bel.size x85
        have hx := hx.keep x85 (fun g h1 h2 h3 => by omega)
        have hb1 := hb1.keep x85 (fun h => by omega)
        have hb3 := hb3.keep x85 (fun h => by omega)
        have hb4 := hb4.keep x85 (fun h => by omega)
        refine bindC_nil ?_
        exact OpC_v rfl (o_loadS Tryd.isAgg28 Tryd.sizeOf28 rfl hb4.at rfl)
      refine OblC_cons (fun w90 c92 x91 hc093 hk94 => ?_) ?_
      · skip
        replace x91 := Bel.mono x91 (D' := fun g => g = b2) (fun g hg h => Classical.byContradiction fun hn => h (by (try simp only [not_or] at hn); simp [hn]))
        have z95 := Bel.size x91
        have hx := hx.keep x91 (fun g h1 h2 h3 => by omega)
        have hb1 := hb1.keep x91 (fun h => by omega)
        have hb3 := hb3.keep x91 (fun h => by omega)
        have hb4 := hb4.keep x91 (fun h => by omega)
        refine bindC_eq ?_
        refine bindC_eq ?_
        refine bindC_nil ?_
        exact OpC_storeW (v := .agg _) (by decide) Tryd.sizeOf27 rfl rfl (hb2.blk (hk94 1 (by decide) (by kernel_rfl) _ hb2.lt (by first | (simp [colAt]; done) | (simp [colAt]; omega)))) ((hc093 b2 hb2.lt).trans (by first | (simp [colAt]; done) | (simp [colAt]; omega))) rfl rfl rfl
      exact OblC_nil
    case fin2 =>
      intro w96 c98 x97 hc099
      replace x97 := Bel.mono x97 (D' := fun g => g = b2) (fun g hg h => Classical.byContradiction fun hn => h (by (try simp only [not_or] at hn); simp [hn]))
      have z100 := Bel.size x97
      replace hX := Bel.out hX x97 (fun g h1 h2 => by first | exact h2 | omega)
      replace hx := hx.keep x97 (fun g h1 h2 h3 => by omega)
      replace hb1 := hb1.keep x97 (fun h => by omega)
      replace hb3 := hb3.keep x97 (fun h => by omega)
      replace hb4 := hb4.keep x97 (fun h => by omega)
      refine bindC_eq ?_
      refine bindC_eq ?_
      refine bindC_st (fun hst2 => ?_)
      refine bindC_nil ?_
      have hb2 := hst2.1
      refine Rg_storeW (v := .agg _) rfl Tryd.sizeOf28 rfl rfl hb3 rfl rfl rfl ?_
      intro w101 c102 hb3
      change Box _ _ _ (encP _) at hb3
      have z103 := Bel.size c102
      replace hX := Bel.out hX c102 (fun g h1 h2 => by first | exact h2 | omega)
      replace hx := hx.keep c102 (fun g h1 h2 h3 => by omega)
      replace hb1 := hb1.keep c102 (fun h => by omega)
      replace hb4 := hb4.keep c102 (fun h => by omega)
      replace hb2 := hb2.keep c102 (fun h => by omega)
      refine Rg_nil ?_
      refine W_ret ?_
      refine ⟨_, res_T (vs := [.agg _, .agg _]) rfl ⟨rv_cellS Tryd.isAgg27 Tryd.sizeOf27 rfl hb2.at rfl, rv_cellS Tryd.isAgg28 Tryd.sizeOf28 rfl hb3.at rfl, trivial⟩ (by simp), ?_⟩
      exact ⟨rfl, hX⟩

theorem lsame_ok (β : Prop) (w : World) (vx : Value) (x : List Perm) (hx : Rd encP 3 (Lt w.heap.size) w vx x) (nx : x.length ≤ 1000000) (ox : ∀ p ∈ x, (Perm.ok) p) (vy : Value) (y : List Perm) (hy : Rd encP 3 (Lt w.heap.size) w vy y) (ny : y.length ≤ 1000000) (oy : ∀ p ∈ y, (Perm.ok) p) : Ok Tryd.prog 27 #[vx, vy] w fun v w' => v = .bool (x == y) ∧ Ext β w w' := by
  obtain ⟨ax, cx, rfl, hx⟩ := hx; have mx := hx.len
  obtain ⟨ay, cy, rfl, hy⟩ := hy; have my := hy.len
  refine Ok_of_W 26 Tryd.func27 rfl rfl rfl ?_
  have hX : Ext β w w := Bel.refl _ _
  refine W_seq ?_
  refine W_region ?_
  refine Rg_run rfl o_assignc ?_
  refine Rg_nil ?_
  refine W_seq ?_
  refine W_seq ?_
  refine W_region ?_
  refine Rg_run rfl (o_moveh (v := .slice _ _ _) rfl) ?_
  refine Rg_run rfl (o_llen Tryd.underlying46 rfl) ?_
  refine Rg_run rfl (o_moveh (v := .slice _ _ _) rfl) ?_
  refine Rg_run rfl (o_llen Tryd.underlying47 rfl) ?_
  refine Rg_run rfl (o_neq rfl rfl) ?_
  refine Rg_nil ?_
  refine W_cond rfl (fun hc1 => ?_) (fun hc1 => ?_)
  · skip
    first | replace hc1 := of_decide_eq_true hc1 | replace hc1 := bnot_t hc1 | skip
    refine W_seq ?_
    refine W_region ?_
    refine Rg_run rfl o_assignc ?_
    refine Rg_nil ?_
    refine W_ret ?_
    refine ⟨_, res_tmp rfl rfl, ?_⟩
    refine ⟨congrArg Value.bool ?_, hX⟩
    all_goals (exact (eqT_len (by simpa using hc1)).symm)
  · skip
    have hle : (x.length : Int) = y.length := by simpa using hc1
    refine W_skip ?_
    refine W_seq ?_
    refine W_seq ?_
    refine W_region ?_
    refine Rg_run rfl (o_moveh (v := .slice _ _ _) rfl) ?_
    refine Rg_run rfl (o_llen Tryd.underlying46 rfl) ?_
    refine Rg_run rfl o_movec ?_
    refine Rg_nil ?_
    refine W_block ?_
    refine W_for (α := Nat) [(4, 5), (13, 25)] (fun k => [(13, .int .i64 (k : Int))]) (fun k w' => (k ≤ x.length ∧ x.take k = y.take k) ∧ Ext β w w') (fun k => x.length - k) 0 ⟨rfl, trivial⟩ ⟨⟨by omega, by simp⟩, Bel.refl _ _⟩ ?_
    rintro k fb3 w2 ⟨⟨hk, hall⟩, hXL1⟩
    replace hX := Bel.ex hX hXL1
    replace hx := hx.ext hXL1
    replace hy := hy.ext hXL1
    refine W_seq ?_
    refine W_region ?_
    refine Rg_run rfl (o_lss rfl rfl) ?_
    refine Rg_nil ?_
    refine W_seq ?_
    refine W_cond rfl (fun hc2 => ?_) (fun hc2 => ?_)
    · skip
      first | replace hc2 := of_decide_eq_true hc2 | replace hc2 := bnot_t hc2 | skip
      refine W_skip ?_
      refine W_seq ?_
      refine W_block ?_
      refine W_seq ?_
      refine W_region ?_
      refine Rg_run rfl (o_moveh (v := .int _ _) rfl) ?_
      refine Rg_run rfl (o_assignh (v := .int _ _) rfl) ?_
      refine Rg_nil ?_
      refine W_seq ?_
      apply W_draw (β := β) [peq _, peq _, peq _, peq _, peq _, peq _, peq _, peq _, peq _] 9 mixed (by kernel_rfl) rfl ⟨peq_stable _, peq_stable _, peq_stable _, peq_stable _, peq_stable _, peq_stable _, peq_stable _, peq_stable _, peq_stable _, trivial⟩ ?ob6 ?fin6
      case ob6 =>
        refine OblL_cons (fun w4 x5 => ?_) ?_
        · skip
          have hx := hx.ext x5
          have hy := hy.ext x5
          refine bindP_nil ?_
          exact OpS_v rfl (o_moveh (v := .slice _ _ _) rfl)
        refine OblL_cons (fun w6 x7 => ?_) ?_
        · skip
          have hx := hx.ext x7
          have hy := hy.ext x7
          refine bindP_nil ?_
          exact OpS_v rfl (o_moveh (v := .int _ _) rfl)
        refine OblL_cons (fun w8 x9 => ?_) ?_
        · skip
          have hx := hx.ext x9
          have hy := hy.ext x9
          refine bindP_eq ?_
          refine bindP_eq ?_
          refine bindP_nil ?_
          exact OpS_v rfl (o_iaR Tryd.underlying46 Tryd.sizeOf27 hx rfl rfl (by first | omega | (unfold I64; omega) | (simp; done) | (simp; omega) | (simp at *; omega)))
        refine OblL_cons (fun w10 x11 => ?_) ?_
        · skip
          have hx := hx.ext x11
          have hy := hy.ext x11
          refine bindP_eq ?_
          refine bindP_nil ?_
          exact OpS_v rfl (o_ldRS Tryd.isAgg27 Tryd.sizeOf27 hx rfl (getE pz (by omega)))
        refine OblL_cons (fun w12 x13 => ?_) ?_
        · skip
          have hx := hx.ext x13
          have hy := hy.ext x13
          refine bindP_nil ?_
          exact OpS_v rfl (o_moveh (v := .slice _ _ _) rfl)
        refine OblL_cons (fun w14 x15 => ?_) ?_
        · skip
          have hx := hx.ext x15
          have hy := hy.ext x15
          refine bindP_nil ?_
          exact OpS_v rfl (o_moveh (v := .int _ _) rfl)
        refine OblL_cons (fun w16 x17 => ?_) ?_
        · skip
          have hx := hx.ext x17
          have hy := hy.ext x17
          refine bindP_eq ?_
          refine bindP_eq ?_
          refine bindP_nil ?_
          exact OpS_v rfl (o_iaR Tryd.underlying47 Tryd.sizeOf28 hy rfl rfl (by first | omega | (unfold I64; omega) | (simp; done) | (simp; omega) | (simp at *; omega)))
        refine OblL_cons (fun w18 x19 => ?_) ?_
        · skip
          have hx := hx.ext x19
          have hy := hy.ext x19
          refine bindP_eq ?_
          refine bindP_nil ?_
          exact OpS_v rfl (o_ldRS Tryd.isAgg28 Tryd.sizeOf28 hy rfl (getE pz (by omega)))
        refine OblL_cons (fun w20 x21 => ?_) ?_
        · skip
          have hx := hx.ext x21
          have hy := hy.ext x21
          refine bindP_eq ?_
          refine bindP_eq ?_
          refine bindP_nil ?_
          exact OpS_v rfl (o_tneq eq_rperm rfl rfl)
        exact OblL_nil
      case fin6 =>
        intro w22 x23
        replace hX := Bel.ex hX x23
        replace hXL1 := Bel.ex hXL1 x23
        replace hx := hx.ext x23
        replace hy := hy.ext x23
        refine bindP_eq ?_
        refine bindP_eq ?_
        refine bindP_eq ?_
        refine bindP_eq ?_
        refine bindP_eq ?_
        refine bindP_eq ?_
        refine bindP_eq ?_
        refine bindP_eq ?_
        refine bindP_eq ?_
        refine bindP_nil ?_
        refine Rg_nil ?_
        refine W_cond rfl (fun hc3 => ?_) (fun hc3 => ?_)
        · skip
          first | replace hc3 := of_decide_eq_true hc3 | replace hc3 := bnot_t hc3 | skip
          refine W_seq ?_
          refine W_region ?_
          refine Rg_run rfl o_assignc ?_
          refine Rg_nil ?_
          refine W_ret ?_
          refine ⟨_, res_tmp rfl rfl, ?_⟩
          refine ⟨congrArg Value.bool ?_, hX⟩
          all_goals (exact (eqT_ne (z := pz) (k := k) (by simpa using hc3)).symm)
        · skip
          first | replace hc3 := of_decide_eq_false hc3 | replace hc3 := bnot_f hc3 | skip
          refine W_skip ?_
          refine W_region ?_
          refine Rg_run rfl (o_add rfl rfl (by first | omega | (unfold I64; omega) | (simp; done) | (simp; omega) | (simp at *; omega))) ?_
          refine Rg_run rfl (o_moveh (v := .int _ _) rfl) ?_
          refine Rg_nil ?_
          refine ⟨k + 1, ⟨?_, trivial⟩, ?_, ⟨?_, hXL1⟩, ?_⟩
          · first | rfl | (go_num) | (exact congrArg _ (by omega))
          · repeat (first | exact off_refl _ _ | exact off_mix | refine off_put rfl ?_ | refine off_putN ?_ | refine off_setL rfl ?_ | refine off_mix' rfl ?_)
          · exact ⟨by omega, eqT_succ (z := pz) (by omega) (by omega) hall (by simpa using hc3)⟩
          · omega
    · skip
      first | replace hc2 := of_decide_eq_false hc2 | replace hc2 := bnot_f hc2 | skip
      refine W_exit ?_
      refine exAt_hit ?_
      refine W_seq ?_
      refine W_region ?_
      refine Rg_run rfl o_assignc ?_
      refine Rg_nil ?_
      refine W_ret ?_
      refine ⟨_, res_tmp rfl rfl, ?_⟩
      refine ⟨congrArg Value.bool ?_, hX⟩
      all_goals (exact (eqT_end (k := k) (by omega) (by omega) hall).symm)

theorem awake_ok (w : World) : Ok Tryd.prog 13 #[] w fun v w' => v = .bool (true) ∧ Ext False w w' := by
  refine Ok_of_W 45 Tryd.func13 rfl rfl rfl ?_
  have hX : Ext False w w := Bel.refl _ _
  refine W_seq ?_
  refine W_region ?_
  refine Rg_run rfl o_assignc ?_
  refine Rg_nil ?_
  refine W_seq ?_
  refine W_region ?_
  refine Rg_run rfl (o_build (cells := encP aw0) (vs := [(0, str _), (1, str _), (2, .bool _)]) rfl (by kernel_rfl)) ?_
  refine Rg_alst rfl rfl Tryd.zeroValue27 rfl Tryd.sizeOf27 (fun _ => rfl) rfl rfl ?_
  intro b1 w1 x2 hge1 hb1
  have hlt1 := hb1.lt
  change Box _ _ _ (encP _) at hb1
  have z3 := Bel.size x2
  replace hX := Bel.ex hX x2
  refine Rg_nil ?_
  refine W_seq ?_
  refine W_region ?_
  refine Rg_run rfl (o_build (cells := encP ⟨[114, 101, 97, 100], [47, 97, 47, 98], false⟩) (vs := [(0, str _), (1, str _)]) rfl (by kernel_rfl)) ?_
  refine Rg_run rfl (o_loadS Tryd.isAgg27 Tryd.sizeOf27 rfl hb1.at rfl) ?_
  refine Rg_run rfl (o_build (cells := encP ⟨[119, 114, 105, 116, 101], [47, 99], false⟩) (vs := [(0, str _), (1, str _)]) rfl (by kernel_rfl)) ?_
  refine Rg_run rfl (o_build (cells := encP ⟨[114, 101, 97, 100], [47, 97, 47, 98], true⟩) (vs := [(0, str _), (1, str _), (2, .bool _)]) rfl (by kernel_rfl)) ?_
  refine Rg_bs (vs := [.agg _, .agg _, .agg _, .agg _]) (awL) rfl encP_ok el_perm rfl rfl ⟨rfl, ⟨rfl, ⟨rfl, ⟨rfl, trivial⟩⟩⟩⟩ rfl rfl rfl rfl ?_
  intro a9 w4 x5 hown9
  have z6 := Bel.size x5
  replace hX := Bel.ex hX x5
  replace hb1 := hb1.ext x5
  replace hown9 := hown9.mono (D' := fun g => w.heap.size ≤ g) (fun g h1 h2 => by omega)
  refine Rg_run rfl (o_assignh (v := .slice _ _ _) rfl) ?_
  refine Rg_nil ?_
  refine W_seq ?_
  refine W_region ?_
  have hs9 := hown9.slA encP_ok
  refine Rg_run rfl (o_moveh (v := .slice _ _ _) rfl) ?_
  refine Rg_enter rfl (o_call1 Tryd.call26 rfl) (Ok.mono (pnormal_ok _ _ awL (hown9.trd encP_ok) (by decide) awL_ok) ?_)
  rintro v11 w7 ⟨hown11, x8⟩
  have z9 := Bel.size x8
  replace hX := Bel.ex hX x8
  replace hb1 := hb1.ext x8
  replace hown9 := hown9.ext x8
  replace hown11 := hown11.mono (D' := fun g => w.heap.size ≤ g) (fun g h1 h2 => by omega)
  rw [awL_norm] at hown11; obtain ⟨a11, c11, hv11, hs11⟩ := hown11.sl encP_ok; subst hv11
  refine Rg_run rfl (o_assignh (v := .slice _ _ _) rfl) ?_
  refine Rg_nil ?_
  refine W_seq ?_
  apply W_draw (β := False) [peq _, peq _, peq _, peq _, peq _, peq _, peq _, peq _, peq _, peq _, peq _, peq _, peq _, peq _, peq _, peq _, peq _, peq _, peq _, peq _, peq _, peq _, peq _, peq _, peq _, peq _, peq _, peq _, peq _, peq _, peq _, peq _, peq _, peq _] 34 mixed (by kernel_rfl) rfl ⟨peq_stable _, peq_stable _, peq_stable _, peq_stable _, peq_stable _, peq_stable _, peq_stable _, peq_stable _, peq_stable _, peq_stable _, peq_stable _, peq_stable _, peq_stable _, peq_stable _, peq_stable _, peq_stable _, peq_stable _, peq_stable _, peq_stable _, peq_stable _, peq_stable _, peq_stable _, peq_stable _, peq_stable _, peq_stable _, peq_stable _, peq_stable _, peq_stable _, peq_stable _, peq_stable _, peq_stable _, peq_stable _, peq_stable _, peq_stable _, trivial⟩ ?ob4 ?fin4
  case ob4 =>
    refine OblL_cons (fun w10 x11 => ?_) ?_
    · skip
      have hb1 := hb1.ext x11
      have hown9 := hown9.ext x11
      have hown11 := hown11.ext x11
      have hs11 := hs11.ext x11
      refine bindP_nil ?_
      exact OpS_v rfl (o_loadS Tryd.isAgg27 Tryd.sizeOf27 rfl hb1.at rfl)
    refine OblL_cons (fun w12 x13 => ?_) ?_
    · skip
      have hb1 := hb1.ext x13
      have hown9 := hown9.ext x13
      have hown11 := hown11.ext x13
      have hs11 := hs11.ext x13
      refine bindP_eq ?_
      refine bindP_nil ?_
      exact OpS_call rfl (o_call3 Tryd.call19 rfl rfl rfl) (covers_ok (False) _ ⟨by decide, by decide⟩ _ _ (by decide) (by decide) _)
    refine OblL_cons (fun w14 x15 => ?_) ?_
    · skip
      have hb1 := hb1.ext x15
      have hown9 := hown9.ext x15
      have hown11 := hown11.ext x15
      have hs11 := hs11.ext x15
      refine bindP_eq ?_
      refine bindP_eq ?_
      refine bindP_nil ?_
      exact OpS_v rfl (o_moveh (v := .bool _) rfl)
    refine OblL_cons (fun w16 x17 => ?_) ?_
    · skip
      have hb1 := hb1.ext x17
      have hown9 := hown9.ext x17
      have hown11 := hown11.ext x17
      have hs11 := hs11.ext x17
      refine bindP_eq ?_
      refine bindP_nil ?_
      exact OpS_may 2 14 rfl rfl (fun hg => (o_loadS Tryd.isAgg27 Tryd.sizeOf27 rfl hb1.at rfl))
    refine OblL_cons (fun w18 x19 => ?_) ?_
    · skip
      have hb1 := hb1.ext x19
      have hown9 := hown9.ext x19
      have hown11 := hown11.ext x19
      have hs11 := hs11.ext x19
      refine bindP_eq ?_
      refine bindP_eq ?_
      refine bindP_eq ?_
      refine bindP_nil ?_
      exact OpS_mayCall 2 14 rfl rfl (fun hg => ⟨(o_call3 Tryd.call19 (gsel (u := undef) hg) rfl rfl), covers_ok (False) _ ⟨by decide, by decide⟩ _ _ (by decide) (by decide) _⟩)
    refine OblL_cons (fun w20 x21 => ?_) ?_
    · skip
      have hb1 := hb1.ext x21
      have hown9 := hown9.ext x21
      have hown11 := hown11.ext x21
      have hs11 := hs11.ext x21
      refine bindP_eq ?_
      refine bindP_eq ?_
      refine bindP_nil ?_
      exact OpS_may 2 14 rfl rfl (fun hg => (o_not (gsel (u := undef) hg)))
    refine OblL_cons (fun w22 x23 => ?_) ?_
    · skip
      have hb1 := hb1.ext x23
      have hown9 := hown9.ext x23
      have hown11 := hown11.ext x23
      have hs11 := hs11.ext x23
      refine bindP_eq ?_
      refine bindP_eq ?_
      refine bindP_nil ?_
      exact OpS_v rfl (o_and (u := undef) rfl rfl)
    refine OblL_cons (fun w24 x25 => ?_) ?_
    · skip
      have hb1 := hb1.ext x25
      have hown9 := hown9.ext x25
      have hown11 := hown11.ext x25
      have hs11 := hs11.ext x25
      refine bindP_eq ?_
      refine bindP_eq ?_
      refine bindP_nil ?_
      exact OpS_v rfl (o_moveh (v := .bool _) rfl)
    refine OblL_cons (fun w26 x27 => ?_) ?_
    · skip
      have hb1 := hb1.ext x27
      have hown9 := hown9.ext x27
      have hown11 := hown11.ext x27
      have hs11 := hs11.ext x27
      refine bindP_eq ?_
      refine bindP_nil ?_
      exact OpS_may 7 19 rfl rfl (fun hg => (o_loadS Tryd.isAgg27 Tryd.sizeOf27 rfl hb1.at rfl))
    refine OblL_cons (fun w28 x29 => ?_) ?_
    · skip
      have hb1 := hb1.ext x29
      have hown9 := hown9.ext x29
      have hown11 := hown11.ext x29
      have hs11 := hs11.ext x29
      refine bindP_eq ?_
      refine bindP_eq ?_
      refine bindP_eq ?_
      refine bindP_nil ?_
      exact OpS_mayCall 7 19 rfl rfl (fun hg => ⟨(o_call1 Tryd.call36 (gsel (u := undef) hg)), ptext_ok (False) _ _ ⟨by decide, by decide⟩⟩)
    refine OblL_cons (fun w30 x31 => ?_) ?_
    · skip
      have hb1 := hb1.ext x31
      have hown9 := hown9.ext x31
      have hown11 := hown11.ext x31
      have hs11 := hs11.ext x31
      refine bindP_eq ?_
      refine bindP_eq ?_
      refine bindP_nil ?_
      exact OpS_may 7 19 rfl rfl (fun hg => (o_seql (gsel (u := undef) hg) rfl))
    refine OblL_cons (fun w32 x33 => ?_) ?_
    · skip
      have hb1 := hb1.ext x33
      have hown9 := hown9.ext x33
      have hown11 := hown11.ext x33
      have hs11 := hs11.ext x33
      refine bindP_eq ?_
      refine bindP_eq ?_
      refine bindP_nil ?_
      exact OpS_v rfl (o_and (u := undef) rfl rfl)
    refine OblL_cons (fun w34 x35 => ?_) ?_
    · skip
      have hb1 := hb1.ext x35
      have hown9 := hown9.ext x35
      have hown11 := hown11.ext x35
      have hs11 := hs11.ext x35
      refine bindP_eq ?_
      refine bindP_eq ?_
      refine bindP_nil ?_
      exact OpS_v rfl (o_moveh (v := .bool _) rfl)
    refine OblL_cons (fun w36 x37 => ?_) ?_
    · skip
      have hb1 := hb1.ext x37
      have hown9 := hown9.ext x37
      have hown11 := hown11.ext x37
      have hs11 := hs11.ext x37
      refine bindP_eq ?_
      refine bindP_nil ?_
      exact OpS_may 12 24 rfl rfl (fun hg => (o_moveh (v := .slice _ _ _) rfl))
    refine OblL_cons (fun w38 x39 => ?_) ?_
    · skip
      have hb1 := hb1.ext x39
      have hown9 := hown9.ext x39
      have hown11 := hown11.ext x39
      have hs11 := hs11.ext x39
      refine bindP_eq ?_
      refine bindP_eq ?_
      refine bindP_nil ?_
      exact OpS_may 12 24 rfl rfl (fun hg => (o_llen Tryd.underlying46 (gsel (u := undef) hg)))
    refine OblL_cons (fun w40 x41 => ?_) ?_
    · skip
      have hb1 := hb1.ext x41
      have hown9 := hown9.ext x41
      have hown11 := hown11.ext x41
      have hs11 := hs11.ext x41
      refine bindP_eq ?_
      refine bindP_eq ?_
      refine bindP_nil ?_
      exact OpS_may 12 24 rfl rfl (fun hg => (o_eql (gsel (u := undef) hg) rfl))
    refine OblL_cons (fun w42 x43 => ?_) ?_
    · skip
      have hb1 := hb1.ext x43
      have hown9 := hown9.ext x43
      have hown11 := hown11.ext x43
      have hs11 := hs11.ext x43
      refine bindP_eq ?_
      refine bindP_eq ?_
      refine bindP_nil ?_
      exact OpS_v rfl (o_and (u := undef) rfl rfl)
    refine OblL_cons (fun w44 x45 => ?_) ?_
    · skip
      have hb1 := hb1.ext x45
      have hown9 := hown9.ext x45
      have hown11 := hown11.ext x45
      have hs11 := hs11.ext x45
      refine bindP_eq ?_
      refine bindP_eq ?_
      refine bindP_nil ?_
      exact OpS_v rfl (o_moveh (v := .bool _) rfl)
    refine OblL_cons (fun w46 x47 => ?_) ?_
    · skip
      have hb1 := hb1.ext x47
      have hown9 := hown9.ext x47
      have hown11 := hown11.ext x47
      have hs11 := hs11.ext x47
      refine bindP_eq ?_
      refine bindP_nil ?_
      exact OpS_may 17 29 rfl rfl (fun hg => (o_moveh (v := .slice _ _ _) rfl))
    refine OblL_cons (fun w48 x49 => ?_) ?_
    · skip
      have hb1 := hb1.ext x49
      have hown9 := hown9.ext x49
      have hown11 := hown11.ext x49
      have hs11 := hs11.ext x49
      refine bindP_eq ?_
      refine bindP_eq ?_
      refine bindP_nil ?_
      exact OpS_may 17 29 rfl rfl (fun hg => (o_iaR (i := 0) Tryd.underlying46 Tryd.sizeOf27 hs11 (gsel (u := undef) hg) rfl (by decide)))
    refine OblL_cons (fun w50 x51 => ?_) ?_
    · skip
      have hb1 := hb1.ext x51
      have hown9 := hown9.ext x51
      have hown11 := hown11.ext x51
      have hs11 := hs11.ext x51
      refine bindP_eq ?_
      refine bindP_eq ?_
      refine bindP_nil ?_
      exact OpS_may 17 29 rfl rfl (fun hg => (o_ldRS Tryd.isAgg27 Tryd.sizeOf27 hs11 (gsel (u := undef) hg) (getE (l := [_, _]) pz (by decide))))
    refine OblL_cons (fun w52 x53 => ?_) ?_
    · skip
      have hb1 := hb1.ext x53
      have hown9 := hown9.ext x53
      have hown11 := hown11.ext x53
      have hs11 := hs11.ext x53
      refine bindP_eq ?_
      refine bindP_nil ?_
      exact OpS_may 17 29 rfl rfl (fun hg => (o_loadS Tryd.isAgg27 Tryd.sizeOf27 rfl hb1.at rfl))
    refine OblL_cons (fun w54 x55 => ?_) ?_
    · skip
      have hb1 := hb1.ext x55
      have hown9 := hown9.ext x55
      have hown11 := hown11.ext x55
      have hs11 := hs11.ext x55
      refine bindP_eq ?_
      refine bindP_eq ?_
      refine bindP_eq ?_
      refine bindP_nil ?_
      exact OpS_may 17 29 rfl rfl (fun hg => (o_teql eq_perm (gsel (u := undef) hg) (gsel (u := undef) hg)))
    refine OblL_cons (fun w56 x57 => ?_) ?_
    · skip
      have hb1 := hb1.ext x57
      have hown9 := hown9.ext x57
      have hown11 := hown11.ext x57
      have hs11 := hs11.ext x57
      refine bindP_eq ?_
      refine bindP_eq ?_
      refine bindP_nil ?_
      exact OpS_v rfl (o_and (u := undef) rfl rfl)
    refine OblL_cons (fun w58 x59 => ?_) ?_
    · skip
      have hb1 := hb1.ext x59
      have hown9 := hown9.ext x59
      have hown11 := hown11.ext x59
      have hs11 := hs11.ext x59
      refine bindP_eq ?_
      refine bindP_eq ?_
      refine bindP_nil ?_
      exact OpS_v rfl (o_moveh (v := .bool _) rfl)
    refine OblL_cons (fun w60 x61 => ?_) ?_
    · skip
      have hb1 := hb1.ext x61
      have hown9 := hown9.ext x61
      have hown11 := hown11.ext x61
      have hs11 := hs11.ext x61
      refine bindP_eq ?_
      refine bindP_nil ?_
      exact OpS_may 24 36 rfl rfl (fun hg => (o_moveh (v := .slice _ _ _) rfl))
    refine OblL_cons (fun w62 x63 => ?_) ?_
    · skip
      have hb1 := hb1.ext x63
      have hown9 := hown9.ext x63
      have hown11 := hown11.ext x63
      have hs11 := hs11.ext x63
      refine bindP_eq ?_
      refine bindP_eq ?_
      refine bindP_nil ?_
      exact OpS_may 24 36 rfl rfl (fun hg => (o_iaR (i := 1) Tryd.underlying46 Tryd.sizeOf27 hs11 (gsel (u := undef) hg) rfl (by decide)))
    refine OblL_cons (fun w64 x65 => ?_) ?_
    · skip
      have hb1 := hb1.ext x65
      have hown9 := hown9.ext x65
      have hown11 := hown11.ext x65
      have hs11 := hs11.ext x65
      refine bindP_eq ?_
      refine bindP_eq ?_
      refine bindP_nil ?_
      exact OpS_may 24 36 rfl rfl (fun hg => (o_ldRS Tryd.isAgg27 Tryd.sizeOf27 hs11 (gsel (u := undef) hg) (getE (l := [_, _]) pz (by decide))))
    refine OblL_cons (fun w66 x67 => ?_) ?_
    · skip
      have hb1 := hb1.ext x67
      have hown9 := hown9.ext x67
      have hown11 := hown11.ext x67
      have hs11 := hs11.ext x67
      refine bindP_eq ?_
      refine bindP_nil ?_
      exact OpS_may 24 36 rfl rfl (fun hg => (o_moveh (v := .slice _ _ _) rfl))
    refine OblL_cons (fun w68 x69 => ?_) ?_
    · skip
      have hb1 := hb1.ext x69
      have hown9 := hown9.ext x69
      have hown11 := hown11.ext x69
      have hs11 := hs11.ext x69
      refine bindP_eq ?_
      refine bindP_eq ?_
      refine bindP_nil ?_
      exact OpS_may 24 36 rfl rfl (fun hg => (o_iaR (i := 2) Tryd.underlying46 Tryd.sizeOf27 (hown9.slA encP_ok) (gsel (u := undef) hg) rfl (by decide)))
    refine OblL_cons (fun w70 x71 => ?_) ?_
    · skip
      have hb1 := hb1.ext x71
      have hown9 := hown9.ext x71
      have hown11 := hown11.ext x71
      have hs11 := hs11.ext x71
      refine bindP_eq ?_
      refine bindP_eq ?_
      refine bindP_nil ?_
      exact OpS_may 24 36 rfl rfl (fun hg => (o_ldRS Tryd.isAgg27 Tryd.sizeOf27 (hown9.slA encP_ok) (gsel (u := undef) hg) (getE (l := awL) pz (by decide))))
    refine OblL_cons (fun w72 x73 => ?_) ?_
    · skip
      have hb1 := hb1.ext x73
      have hown9 := hown9.ext x73
      have hown11 := hown11.ext x73
      have hs11 := hs11.ext x73
      refine bindP_eq ?_
      refine bindP_eq ?_
      refine bindP_eq ?_
      refine bindP_nil ?_
      exact OpS_may 24 36 rfl rfl (fun hg => (o_teql eq_perm (gsel (u := undef) hg) (gsel (u := undef) hg)))
    refine OblL_cons (fun w74 x75 => ?_) ?_
    · skip
      have hb1 := hb1.ext x75
      have hown9 := hown9.ext x75
      have hown11 := hown11.ext x75
      have hs11 := hs11.ext x75
      refine bindP_eq ?_
      refine bindP_eq ?_
      refine bindP_nil ?_
      exact OpS_v rfl (o_and (u := undef) rfl rfl)
    refine OblL_cons (fun w76 x77 => ?_) ?_
    · skip
      have hb1 := hb1.ext x77
      have hown9 := hown9.ext x77
      have hown11 := hown11.ext x77
      have hs11 := hs11.ext x77
      refine bindP_eq ?_
      refine bindP_eq ?_
      refine bindP_eq ?_
      refine bindP_eq ?_
      refine bindP_eq ?_
      refine bindP_eq ?_
      refine bindP_eq ?_
      refine bindP_eq ?_
      refine bindP_eq ?_
      refine bindP_eq ?_
      refine bindP_eq ?_
      refine bindP_eq ?_
      refine bindP_eq ?_
      refine bindP_eq ?_
      refine bindP_eq ?_
      refine bindP_eq ?_
      refine bindP_eq ?_
      refine bindP_eq ?_
      refine bindP_eq ?_
      refine bindP_eq ?_
      refine bindP_eq ?_
      refine bindP_eq ?_
      refine bindP_eq ?_
      refine bindP_eq ?_
      refine bindP_eq ?_
      refine bindP_eq ?_
      refine bindP_eq ?_
      refine bindP_eq ?_
      refine bindP_eq ?_
      refine bindP_eq ?_
      refine bindP_eq ?_
      refine bindP_eq ?_
      refine bindP_eq ?_
      refine bindP_eq ?_
      refine bindP_eq ?_
      refine bindP_nil ?_
      exact OpS_v rfl (o_assignh (v := .bool _) rfl)
    exact OblL_nil
  case fin4 =>
    intro w78 x79
    have z80 := Bel.size x79
    replace hX := Bel.ex hX x79
    replace hb1 := hb1.ext x79
    replace hown9 := hown9.ext x79
    replace hown11 := hown11.ext x79
    replace hs11 := hs11.ext x79
    refine bindP_eq ?_
    refine bindP_eq ?_
    refine bindP_eq ?_
    refine bindP_eq ?_
    refine bindP_eq ?_
    refine bindP_eq ?_
    refine bindP_eq ?_
    refine bindP_eq ?_
    refine bindP_eq ?_
    refine bindP_eq ?_
    refine bindP_eq ?_
    refine bindP_eq ?_
    refine bindP_eq ?_
    refine bindP_eq ?_
    refine bindP_eq ?_
    refine bindP_eq ?_
    refine bindP_eq ?_
    refine bindP_eq ?_
    refine bindP_eq ?_
    refine bindP_eq ?_
    refine bindP_eq ?_
    refine bindP_eq ?_
    refine bindP_eq ?_
    refine bindP_eq ?_
    refine bindP_eq ?_
    refine bindP_eq ?_
    refine bindP_eq ?_
    refine bindP_eq ?_
    refine bindP_eq ?_
    refine bindP_eq ?_
    refine bindP_eq ?_
    refine bindP_eq ?_
    refine bindP_eq ?_
    refine bindP_eq ?_
    refine bindP_nil ?_
    refine Rg_nil ?_
    refine W_ret ?_
    refine ⟨_, res_tmp rfl rfl, ?_⟩
    refine ⟨congrArg Value.bool ?_, hX⟩
    all_goals (decide +kernel)

end Go.Proofs.YtgnphpimkfcmlaaDoor
